/- Texts bound together: FreeU RenW. -/
import Derived.Test.YtedcnffebdpmmaaGreatBu17

set_option linter.all false
set_option maxHeartbeats 2000000
set_option maxRecDepth 100000
namespace Go.Proofs.YtedcnffebdpmmaaGreat

attribute [local go_sem] za7 zeh

open Go.RowKit

attribute [local go_sem ↓] Go.wp_at_zero Go.wp_at_succ

structure zce (q q2 p b:Nat) (has:Bool) (w w':World) (e:Ending) (s:Sh) (t:Fe) (m:Mem):Prop where
 ret:e= .returned (.tuple #[])
 at':∃ q3,FeAt w' q q3 s t/\(q3=q2/\(has=false->t.put=none)\/w.heap.size<=q3)
 wds:zaq w' p b m
 only:Only (fun k=> k=q\/(has=true/\k=q2)\/k=p\/k=b) w w'
theorem zce.zoq{q q2 p b:Nat}{w w':World}{s:Sh}{t t':Fe}{m:Mem}(h:FeAt w q q2 s t)(n:t.put≠none->q2≠p/\q2≠b)(i:At3 q p b w w' (za7 s t' (ptrV t'.put q2)) 216 m)(l:t'.put=t.put):zce q q2 p b t.put.isSome w w' (.returned (.tuple #[])) s t' m:=by
 refine⟨rfl,⟨q2,⟨i.row,fun x j=>?_⟩,.inl ⟨rfl,fun e=>?_⟩⟩,i.wds,i.only.weak fun k f=>?_⟩
 ·rw[l]at j;obtain⟨h1,h2⟩:=h.inn x j;have h3:=n (by rw[j];exact fun e=>by cases e);exact⟨h1.only i.only (by rintro(e|e|e);exact h2 e.symm;exact h3.1 e;exact h3.2 e),h2⟩
 ·rw[l];exact isSome_none e
 rcases f with f|f|f
 ·exact .inl f
 ·exact .inr (.inr (.inl f))
 exact .inr (.inr (.inr f))
theorem zpj(q p b:Nat)(s:Sh)(t:Fe)(E:Value)(m:Mem)(w:World)(h0:At3 q p b w w (za7 s t E) 216 m)(R:Fits s m)(hs:m.st<1000000000)(L:0<=t.page/\t.page<s.p)(J:t.pk=3)(S:0<=t.word/\t.word<18446744073709551616):
  Calls Tryz.prog 202 #[some q,some p] w fun e w'=>e= .returned (.tuple #[])/\At3 q p b w w' (za7 s (t.claim s m).1 E) 216 (t.claim s m).2/\(t.claim s m).1.put=t.put:=by
 obtain⟨C,N⟩:=R.page L;have i:=fun Y=>planPage_any s.p s.c s.m t.page Y;rw[C]at i;have l:=fun Y=>zcd 1 t.c 0 Y;have I:Hid (zf4 t.c=zb8 1 t.c 0):=hd' rfl;rw[<-I.out]at l;have y:=fun Y (hY:zaq Y p b m)=>zff p b m t.c (s.c+t.page) t.word (zf4 t.c) Y hY N (zc0 _ _ _) hs;have hr:t.claim s m=({t with gave:=decide (m.get (s.c+t.page)=t.word),next:=4,done:= !decide (m.get (s.c+t.page)=t.word)},m.swap t.c (s.c+t.page) t.word (zf4 t.c)):=by unfold Fe.claim;rw[if_pos J,C]
 rw[hr];clear hr C N L R I S;generalize s.c+t.page=D at *;generalize zf4 t.c=S at *;generalize decide (m.get D=t.word)=g at *;dsimp only;obtain⟨sp,T,U⟩:=s;obtain⟨F,V,X,tl,G,pk,pa,pb,tn,Z,o,n,j⟩:=t;dsimp only at i y J ⊢;subst J;replace i:=hd' i;replace l:=hd' l;replace y:=hd' y;have lq:=h0.lt;have b0:=h0.cell;go_in;go_upto_region 1 with fail;go_cut [1] (fun s1 wx=>s1= .pointer (some ⟨p,0,.none⟩)/\At3 q p b w wx (za7 ⟨sp,T,U⟩ ⟨F,V,X,tl,G,3,pa,pb,tn,Z,o,g,j⟩ E) 216 (m.swap F D G S));case first=>
  refine zcx 28 (last:= { dst:=none,op:=Op.store 4 (Operand.tmp 38) (Operand.tmp 36),type:=0,pos:=_,after:=_,guard:=none}) (x:=zbb 60) (ld:=25) (v:= .bool g) (ts:= [12,16,25,29,35])
   (K0:=fun Y=>At3 q p b w Y (za7 ⟨sp,T,U⟩ ⟨F,V,X,tl,G,3,pa,pb,tn,Z,o,n,j⟩ E) 216 m) (K1:=fun Y=>At3 q p b w Y (za7 ⟨sp,T,U⟩ ⟨F,V,X,tl,G,3,pa,pb,tn,Z,o,n,j⟩ E) 216 (m.swap F D G S))
   (by kernel_rfl) rfl (by kernel_rfl) (by simp only[List.take,zbb,zfq,zej,nopO,nopC,Nat.reduceBEq,Bool.or_false,Bool.or_true,Bool.false_eq_true,↓reduceIte,Nat.reduceAdd];exact rfl) (by kernel_rfl) (by kernel_rfl) (by kernel_rfl) (by simp[zbb]) (by simp[zbb]) (by simp[zbb]) (by simp[zbb]) (by kernel_rfl) (by simp[zbb]) (by simp[zbb])
   ⟨⟨fun Y Y' h1 h2 h3=>h1.far h2 h3 h0.only.size⟩,⟨fun Y Y' h1 h2 h3=>h1.far h2 h3 h0.only.size⟩⟩ h0.drew ?_
  apply Exists.intro;refine⟨fun B hb hs=>?_,fun h=>(by simp[zbb]at h),fun Q0=>?_,?_⟩;case refine_1=>
   have O:zaa B q (za7 ⟨sp,T,U⟩ ⟨F,V,X,tl,G,3,pa,pb,tn,Z,o,n,j⟩ E) 216:=hb.elim (fun h=>h.row) (fun h=>h.row);have lB:=O.lt;have b2:=O.cell;repeat (go_big_quiet_step ((first|(go_at_call 65;exact zam (i.out _))|(go_at_call 93;exact zam (l.out _)))))
   exact wpQuiet_nil rfl
  case refine_2=>exact zcz rfl (fun _ _=>by simp[go_sem]) fun Y H hs=>(y.out Y H.wds).mono fun r Y' ⟨h1,h2,h3⟩=>⟨h1,H.access h2 h3,h3.weak fun k J=>by rcases J with rfl|rfl;exact h0.ls.2.1;exact h0.ls.2.2⟩
  case refine_3=>intro a w4 M R;obtain⟨rfl,b1,z,_⟩:=R;have b3:=z.cell;have zf:=z.free;have hB:=z.set 14 (.bool g);simp only[zbb,vput,List.take,List.size_toArray,List.length_cons,List.length_nil,Nat.reduceAdd,Nat.reduceLT,decide_false,Bool.false_eq_true,if_false];go_wp2;go_meet;exact⟨rfl,hB⟩
 case rest=>obtain⟨rfl,hA⟩:=hcut;clear h0 y i l b0 lq;have b4:=hA.cell;have zf:=hA.free;go_wp2_with fail;go_returns;exact⟨rfl,(hA.set 11 _).set 15 _,by first|rfl|trivial⟩
theorem zsz(q q2 p b:Nat)(s:Sh)(t:Fe)(m:Mem)(w:World)(h:FeAt w q q2 s t)(hw:zaq w p b m)(bx:q≠p)(bw:q≠b)(bb:t.put≠none->q2≠p/\q2≠b)(hf:Fits s m)(hs:m.st<1000000000)(bc:0<=t.page/\t.page<s.p)(J:t.pk=2)(bj:0<zah t.pa/\(0<=t.slot/\t.slot<zah t.pa)):
  Calls Tryz.prog 202 #[some q,some p] w fun e w'=>zce q q2 p b t.put.isSome w w' e s (t.claim s m).1 (t.claim s m).2:=by
 have h0:At3 q p b w w (za7 s t (ptrV t.put q2)) 216 m:=At3.start h.row hw bx bw;have bz:=zdg bj.1;obtain⟨b5,bi⟩:=hf.slot bc (i:=t.slot) (by omega);have C:=fun Y=>zbm s.p s.c s.m t.page t.slot Y;rw[b5]at C;have H:=fun Y=>zbl 3 t.pa Y;have I:=fun Y=>zbl 2 t.c Y;have bk:Hid (zfl t.pa=zc3 3 t.pa):=hd' rfl;have bm:Hid (wayW t.c=zc3 2 t.c):=hd' rfl;rw[<-bk.out]at H;rw[<-bm.out]at I;have R:=fun Y (hY:zaq Y p b m)=>zff p b m t.c (s.c+s.p+t.page*16+t.slot) (zfl t.pa) (wayW t.c) Y hY bi (zch _ _) hs;have L:=fun Y=>z00 s t.c t.page t.slot t.pa Y;obtain⟨r,hr⟩:∃ r,r=t.claim s m:=⟨_,rfl⟩;rw[<-hr];unfold Fe.claim at hr;rw[if_neg (by omega),b5]at hr;dsimp only at hr;generalize s.c+s.p+t.page*16+t.slot=sa at *;generalize zfl t.pa=G at *;generalize wayW t.c=ww at *;generalize decide (m.get sa=G)=g at *;generalize bs:zg5 s t.c t.page t.slot t.pa=D at *;have l:Hid (∀ Y,¬ t.pb=t.c->At3 q p b w Y (za7 s {t with gave:=g,next:=3,done:= !g} (ptrV t.put q2)) 216 (m.swap t.c sa G ww)->zce q q2 p b t.put.isSome w Y (.returned (.tuple #[])) s r.1 r.2):=hd' fun Y bu S=>by rw[hr,if_neg bu];exact zce.zoq h bb S rfl
 have n:Hid (∀ Y q3,t.pb=t.c->w.heap.size<=q3->zaa Y q3 (zeh s D) 292->At3 q p b w Y (za7 s { (({t with gave:=g,next:=2,put:=some D}:Fe).kept) with done:= !g} (.pointer (some ⟨q3,0,.none⟩))) 216 (m.swap t.c sa G ww)->zce q q2 p b t.put.isSome w Y (.returned (.tuple #[])) s r.1 r.2):=hd' fun Y q3 he h3 bh S=>by
  rw[hr,if_pos he];have ba:(({t with gave:=g,next:=2,put:=some D}:Fe).kept).put=some D:=by rcases zcv ({t with gave:=g,next:=2,put:=some D}:Fe) D rfl with⟨_,e⟩|⟨_,_,e⟩|⟨_,_,e⟩<;>rw[e]
  refine⟨rfl,⟨q3,⟨by show zaa Y q (za7 s _ (ptrV (({t with gave:=g,next:=2,put:=some D}:Fe).kept).put q3)) _;rw[ba];exact S.row,fun z hz=>?_⟩,.inr h3⟩,S.wds,S.only.weak fun k J=>?_⟩
  ·have hz:(({t with gave:=g,next:=2,put:=some D}:Fe).kept).put=some z:=hz;rw[ba]at hz;obtain rfl:=Option.some.inj hz;exact⟨bh,by have:=h0.ls;omega⟩
  rcases J with J|J|J
  ·exact .inl J
  ·exact .inr (.inr (.inl J))
  exact .inr (.inr (.inr J))
 have o:=fun Y q3 (hY:FeAt Y q q3 s {t with gave:=g,next:=2,put:=some D})=>zoz q q3 s {t with gave:=g,next:=2,put:=some D} D Y hY rfl;have b2:(({t with gave:=g,next:=2,put:=some D}:Fe).kept).gave=g:=by rcases zcv ({t with gave:=g,next:=2,put:=some D}:Fe) D rfl with⟨_,e⟩|⟨_,_,e⟩|⟨_,_,e⟩<;>rw[e]
 generalize bq:(({t with gave:=g,next:=2,put:=some D}:Fe).kept)=tk at *;replace b2:=hd' b2
 have b0:Hid (∀ Y q3,zaa Y q3 (zeh s D) 292->q≠q3->zaa Y q (za7 s {t with gave:=g,next:=2} (.pointer (some ⟨q3,0,.none⟩))) 216->FeAt Y q q3 s {t with gave:=g,next:=2,put:=some D}):=hd' fun Y q3 h1 h2 h3=>⟨h3,fun z hz=>by
  simp only[Option.some.injEq]at hz
  subst hz
  exact⟨h1,h2⟩⟩
 clear hr bs bq b5 bi bc hf bk bm bj bz h hw bb;generalize ptrV t.put q2=pv at *;generalize t.put.isSome=has at *;generalize zeh s D=cd at *;obtain⟨sp,sc,sm⟩:=s;obtain⟨Z,ta,tg,tl,tw,pk,pa,pb,tn,ti,y,F,j⟩:=t;dsimp only at C H I R L J l n o b0 ⊢;subst J;replace C:=hd' C;replace H:=hd' H;replace I:=hd' I;replace R:=hd' R;replace L:=hd' L;replace o:=hd' o;have lq:=h0.lt;have bn:=h0.cell;go_in;go_upto_region 4 with(go_at_call 110;(with_reducible refine(H.out _).mono ?_);rintro r1 w1 ⟨rfl,b8⟩;have hX:=h0.below b8);clear bn lq;go_cut [1] (fun s1 wx=>s1= .pointer (some ⟨p,0,.none⟩)/\At3 q p b w wx (za7 ⟨sp,sc,sm⟩ ⟨Z,ta,tg,tl,tw,2,pa,pb,tn,ti,y,g,j⟩ pv) 216 (m.swap Z sa G ww));case first=>
  refine zcx 29 (last:= { dst:=none,op:=Op.store 4 (Operand.tmp 77) (Operand.tmp 75),type:=0,pos:=_,after:=_,guard:=none}) (x:=zbb 90) (ld:=26) (v:= .bool g) (ts:= [50,54,67,68,74])
   (K0:=fun Y=>At3 q p b w Y (za7 ⟨sp,sc,sm⟩ ⟨Z,ta,tg,tl,tw,2,pa,pb,tn,ti,y,F,j⟩ pv) 216 m) (K1:=fun Y=>At3 q p b w Y (za7 ⟨sp,sc,sm⟩ ⟨Z,ta,tg,tl,tw,2,pa,pb,tn,ti,y,F,j⟩ pv) 216 (m.swap Z sa G ww))
   (by kernel_rfl) rfl (by kernel_rfl) (by simp only[List.take,zbb,zfq,zej,nopO,nopC,Nat.reduceBEq,Bool.or_false,Bool.or_true,Bool.false_eq_true,↓reduceIte,Nat.reduceAdd];exact rfl) (by kernel_rfl) (by kernel_rfl) (by kernel_rfl) (by simp[zbb]) (by simp[zbb]) (by simp[zbb]) (by simp[zbb]) (by kernel_rfl) (by simp[zbb]) (by simp[zbb])
   ⟨⟨fun Y Y' h1 h2 h3=>h1.far h2 h3 hX.only.size⟩,⟨fun Y Y' h1 h2 h3=>h1.far h2 h3 hX.only.size⟩⟩ hX.drew ?_
  apply Exists.intro;refine⟨fun B hb hs=>?_,fun h=>(by simp[zbb]at h),fun Q0=>?_,?_⟩;case refine_1=>
   have bg:zaa B q (za7 ⟨sp,sc,sm⟩ ⟨Z,ta,tg,tl,tw,2,pa,pb,tn,ti,y,F,j⟩ pv) 216:=hb.elim (fun h=>h.row) (fun h=>h.row);have lB:=bg.lt;have c6:=bg.cell;repeat (go_big_quiet_step ((first|(go_at_call 96;exact zam (C.out _))|(go_at_call 110;exact zam (I.out _)))))
   exact wpQuiet_nil rfl
  case refine_2=>exact zcz rfl (fun _ _=>by simp[go_sem]) fun Y b7 hs=>(R.out Y b7.wds).mono fun r Y' ⟨h1,h2,h3⟩=>⟨h1,b7.access h2 h3,h3.weak fun k J=>by have:=hX.only.size;rcases J with rfl|rfl;exact Nat.lt_of_lt_of_le h0.ls.2.1 this;exact Nat.lt_of_lt_of_le h0.ls.2.2 this⟩
  case refine_3=>intro a w4 M hf;obtain⟨rfl,c5,b1,_⟩:=hf;have c7:=b1.cell;have zf:=b1.free;have X:=b1.set 14 (.bool g);simp only[zbb,vput,List.take,List.size_toArray,List.length_cons,List.length_nil,Nat.reduceAdd,Nat.reduceLT,decide_false,Bool.false_eq_true,if_false];go_wp2;go_meet;exact⟨rfl,X⟩
 case rest=>
  obtain⟨rfl,S⟩:=hcut;have cc:=h0.ls;clear h0 R C H I hX b8;have bp:=S.cell;have zf:=S.free;go_upto_region 6 with fail;have X:=S.set 11 (.int .i64 3);generalize World.setCell _ ⟨q,11,.none⟩ (.int .i64 3)=U at *;clear S bp zf;replace X:At3 q p b w U (za7 ⟨sp,sc,sm⟩ ⟨Z,ta,tg,tl,tw,2,pa,pb,3,ti,y,g,j⟩ pv) 216 (m.swap Z sa G ww):=X;have lU:=X.lt;have b6:=X.cell;by_cases he:pb=Z
  ·replace n:=hd' (fun Y q3=>n.out Y q3 he);subst he;clear l;go_quiet (fail);have hC:=X.drewN nq;clear X b6 lU;generalize U.drewN nq=V at *;go_upto_region 7 with fail;have hS:=hd' (fun (Y:World) (v:Value) (h:zaa Y q (za7 ⟨sp,sc,sm⟩ ⟨pb,ta,tg,tl,tw,2,pa,pb,3,ti,y,g,j⟩ v) 216)=>(⟨h.cell 0,h.cell 1,h.cell 2,h.cell 3,h.cell 5,h.cell 6,h.cell 9⟩:Y.cell? ⟨q,0,.none⟩=some (.int .i64 sp)/\Y.cell? ⟨q,1,.none⟩=some (.int .i64 sc)/\Y.cell? ⟨q,2,.none⟩=some (.int .i64 sm)/\Y.cell? ⟨q,3,.none⟩=some (.int .i64 pb)/\Y.cell? ⟨q,5,.none⟩=some (.int .i64 tg)/\Y.cell? ⟨q,6,.none⟩=some (.int .i64 tl)/\Y.cell? ⟨q,9,.none⟩=some (.int .i64 pa)))
   go_region_held3 (fun Y=>Y.cell? ⟨q,0,.none⟩=some (.int .i64 sp)/\Y.cell? ⟨q,1,.none⟩=some (.int .i64 sc)/\Y.cell? ⟨q,2,.none⟩=some (.int .i64 sm)/\Y.cell? ⟨q,3,.none⟩=some (.int .i64 pb)/\Y.cell? ⟨q,5,.none⟩=some (.int .i64 tg)/\Y.cell? ⟨q,6,.none⟩=some (.int .i64 tl)/\Y.cell? ⟨q,9,.none⟩=some (.int .i64 pa))
    (first|exact hS.out _ _ hC.row.drew|exact hS.out _ _ hD.row|exact hS.out _ _ ((hD.set 13 _).row.cast rfl))
    (first|(go_at_call 207;(with_reducible refine(L.out _).mono ?_);rintro r w6 ⟨q3,rfl,bv,N,b9⟩;have hD:=hC.drew.below b9;have c4:=hD.cell 13;have zf:=hD.free))
   have hE:=hD.set 13 (.pointer (some ⟨q3,0,.none⟩));have E:q3≠q:=by have:=hC.lt;have hd:V.drew.heap.size=V.heap.size:=rfl;omega
   have bf:w.heap.size<=q3:=Nat.le_trans hC.only.size bv;have b3:=N.other E 13 (.pointer (some ⟨q3,0,.none⟩));generalize World.setCell w6 ⟨q,13,.none⟩ (.pointer (some ⟨q3,0,.none⟩))=T at *;clear hD c4 zf N b9 hC;replace hE:At3 q p b w T (za7 ⟨sp,sc,sm⟩ ⟨pb,ta,tg,tl,tw,2,pa,pb,3,ti,y,g,j⟩ (.pointer (some ⟨q3,0,.none⟩))) 216 (m.swap pb sa G ww):=hE;have c8:=hE.cell;have zf:=hE.free;have hG:=hE.set 11 (.int .i64 2);have O:=b3.other E 11 (.int .i64 2);go_wp2_with (first|(go_at_call 200;refine(o.out _ q3 (b0.out _ q3 O (fun e=>E e.symm) (hG.row.cast rfl))).mono ?_;rintro r w7 hT;obtain rfl:=hT.ret;have hJ:=hG.turned hT;have b4:=O.only hT.only E;have cf:w7.cell? ⟨q,14,.none⟩=some (.bool g):=(by rw[<-b2.out];exact hJ.cell 14);have c9:=hJ.cell;have yf:=hJ.free));go_returns;exact n.out _ q3 bf (b4.other E _ _) (hJ.set 15 _)
  replace l:=hd' (fun Y=>l.out Y he);have cb:(pb==Z)=false:=by simpa using he
  clear he n o L;go_quiet (fail);have hC:=X.drewN nq;clear X b6 lU;generalize U.drewN nq=V at *;have ca:=hC.cell;have zf:=hC.free;go_wp2_with fail;go_returns;exact l.out _ (hC.set 15 _)
theorem zyu(q q2 p b:Nat)(s:Sh)(t:Fe)(m:Mem)(w:World)(h:FeAt w q q2 s t)(L:zaq w p b m)(S:q≠p)(R:q≠b)(C:t.put≠none->q2≠p/\q2≠b)(J:Fits s m)(U:feOk s t)(hs:m.st<1000000000):
  Calls Tryz.prog 199 #[some q,some p] w fun e w'=>zce q q2 p b t.put.isSome w w' e s (zca s t m).1 (zca s t m).2:=by
 rcases Bool.eq_false_or_eq_true t.done with hd|hd
 ·have n:zca s t m=(t,m):=by unfold zca;rw[if_pos hd]
  rw[n];dsimp only;have b3:w.cell? ⟨q,15,.none⟩=some (.bool true):=by rw[<-hd];exact h.row.cell 15
  have j:zce q q2 p b t.put.isSome w w (.returned (.tuple #[])) s t m:=⟨rfl,⟨q2,h,.inl ⟨rfl,isSome_none⟩⟩,L,Only.refl _ _⟩;replace j:=hd' j;clear h L hd n U J C;go_in;go_wp2_with fail;go_returns;exact j.out
 obtain⟨c1,c2,c3,c4,c5,c6,c7,c8,c9,B⟩:=U.cl hd;have h0:At3 q p b w w (za7 s t (ptrV t.put q2)) 216 m:=At3.start h.row L S R;have j:Hid (∀ Y (t':Fe) m',t'.put=t.put->At3 q p b w Y (za7 s t' (ptrV t.put q2)) 216 m'->zce q q2 p b t.put.isSome w Y (.returned (.tuple #[])) s t' m'):=hd' fun Y t' m' e o=>zce.zoq h C (by rw[e];exact o) e;have bq:w.cell? ⟨q,15,.none⟩=some (.bool false):=by rw[<-hd];exact h.row.cell 15
 have I:=ci t.next (h.row.cell 11);obtain⟨r,n⟩:∃ r,r=zca s t m:=⟨_,rfl⟩;rw[<-n];unfold zca at n;rw[if_neg (by rw[hd];decide)]at n;by_cases T:t.next=0
 ·rw[if_pos T]at n;have bu:=hd' (zy7 q p b s t (ptrV t.put q2) m w h0 J hs c2 c3);have b8:(t.look s m).1.put=t.put:=by unfold Fe.look;dsimp only;split<;>(try split)<;>rfl
  have l:Hid (∀ Y,At3 q p b w Y (za7 s (t.look s m).1 (ptrV t.put q2)) 216 (t.look s m).2->zce q q2 p b t.put.isSome w Y (.returned (.tuple #[])) s r.1 r.2):=hd' fun Y o=>by rw[n];exact j.out Y _ _ b8 o
  rw[T]at I;clear n j c1 c2 c3 c4 c5 c6 c7 c8 c9 B U J h L C T hd b8;generalize t.look s m=lk at *;go_in;go_wp2_with (go_at_call 201;(with_reducible refine bu.out.mono ?_);rintro r1 w1 ⟨rfl,o⟩);go_returns;exact l.out _ o
 rw[if_neg T]at n;by_cases n1:t.next=1
 ·rw[if_pos n1]at n;rw[n1]at I;have c7:=c7 n1;rcases c6 (by omega) with⟨N,_⟩|⟨N,b7⟩
  ·have M:=hd' (zpj q p b s t (ptrV t.put q2) m w h0 J hs c2 N c7);have l:Hid (∀ Y,At3 q p b w Y (za7 s (t.claim s m).1 (ptrV t.put q2)) 216 (t.claim s m).2/\(t.claim s m).1.put=t.put->zce q q2 p b t.put.isSome w Y (.returned (.tuple #[])) s r.1 r.2):=hd' fun Y o=>by rw[n];exact j.out Y _ _ o.2 o.1
   clear n j c1 c2 c3 c4 c5 c6 c7 c8 c9 B U J h L C T n1 hd N;generalize t.claim s m=lk at *;go_in;go_wp2_with (go_at_call 202;(with_reducible refine M.out.mono ?_);rintro r1 w1 ⟨rfl,o⟩);go_returns;exact l.out _ o
  have M:=hd' (zsz q q2 p b s t m w h L S R C J hs c2 N b7);rw[<-n]at M;clear n j c1 c2 c3 c4 c5 c6 c7 c8 c9 B U J h L C T n1 hd N b7;go_in;go_wp2_with (go_at_call 202;(with_reducible refine M.out.mono ?_);rintro r1 w1 hS;obtain rfl:=hS.ret);go_returns;exact hS
 rw[if_neg n1]at n;by_cases n2:t.next=2
 ·rw[if_pos n2]at n;rw[n2]at I;obtain⟨N,x,hx,bj,bz⟩:=c8 n2;rw[hx]at n;dsimp only at n;obtain⟨b6,O⟩:=h.inn x hx;have b0:=C (by rw[hx];exact fun e=>by cases e);have E:=zxz q2 p b s x m w b6 L b0.1 b0.2 J bj hs;have D:=h.row;rw[hx]at D;have cc:=ce (.pointer (some ⟨q2,0,.none⟩)) (D.cell 13);generalize zd3 s x m=ym at *;obtain⟨y,m2⟩:=ym;dsimp only at E n;have V:=hd' (fun Y (hY:FeAt Y q q2 s {t with put:=some y})=>zoz q q2 s {t with put:=some y} y Y hY rfl)
  have b9:Hid (∀ Y e,Stepped q2 p b w Y e (zeh s y) 292 m2->FeAt Y q q2 s {t with put:=some y}):=hd' fun Y e hS=>⟨D.only hS.only (by rintro(e|e|e);exact O e;exact S e;exact R e),fun z hz=>by
   simp only[Option.some.injEq]at hz
   subst hz
   exact⟨hS.row,O⟩⟩
  have X:(({t with put:=some y}:Fe).kept).put=some y:=by rcases zcv ({t with put:=some y}:Fe) y rfl with⟨_,e⟩|⟨_,_,e⟩|⟨_,_,e⟩<;>rw[e]
  have b5:Hid (∀ Y e Z e2,Stepped q2 p b w Y e (zeh s y) 292 m2->Turned q Y Z e2 (za7 s (({t with put:=some y}:Fe).kept) (.pointer (some ⟨q2,0,.none⟩))) 216->zce q q2 p b t.put.isSome w Z (.returned (.tuple #[])) s r.1 r.2):=hd' fun Y e Z e2 hS o=>by
   rw[n];refine⟨rfl,⟨q2,⟨by show zaa Z q (za7 s _ (ptrV (({t with put:=some y}:Fe).kept).put q2)) _;rw[X];exact o.row,fun z hz=>?_⟩,.inl ⟨rfl,fun e=>by rw[hx]at e;cases e⟩⟩,hS.wds.only o.only (fun e=>S e.symm) (fun e=>R e.symm),?_⟩
   ·have hz:(({t with put:=some y}:Fe).kept).put=some z:=hz;rw[X]at hz;obtain rfl:=Option.some.inj hz;exact⟨hS.row.only o.only (fun e=>O e.symm),O⟩
   refine(hS.only.weak (G:=fun k=>k=q\/(t.put.isSome=true/\k=q2)\/k=p\/k=b) fun k e=>?_).trans o.only (fun _ _ e=>.inl e);rcases e with e|e|e
   ·exact .inr (.inl ⟨by rw[hx];rfl,e⟩)
   ·exact .inr (.inr (.inl e))
   exact .inr (.inr (.inr e))
  replace E:=hd' E;clear n j h0 c1 c2 c3 c4 c5 c6 c7 c8 c9 B U J h L T n1 n2 b6 bj bz D b0 C X hd N;generalize ({t with put:=some y}:Fe).kept=t2 at *;go_in;go_wp2_with (first|(go_at_call 203;(with_reducible refine E.out.mono ?_);rintro r1 w1 hS;obtain rfl:=hS.ret)|(go_at_call 200;refine(V.out _ (b9.out _ _ hS)).mono ?_;rintro r2 w2 hT;obtain rfl:=hT.ret));go_returns;exact b5.out _ _ _ _ hS hT
 rw[if_neg n2]at n;by_cases n3:t.next=3
 ·rw[if_pos n3]at n;rw[n3]at I;have N:=c9 n3;have bg:0<zah t.pa/\(0<=t.slot/\t.slot<zah t.pa):=by rcases c6 (by omega) with h1|h1;omega;exact h1.2
  have bw:=zdg bg.1;obtain⟨bh,bf⟩:=J.slot c2 (i:=t.slot) (by omega);have F:=fun Y=>zbm s.p s.c s.m t.page t.slot Y;rw[bh]at F n;have H:=fun Y=>zbl 1 t.pa Y;have bi:Hid (zc8 t.pa=zc3 1 t.pa):=hd' rfl;rw[<-bi.out]at H;have E:=fun Y (hY:zaq Y p b m)=>zba p b m t.c (s.c+s.p+t.page*16+t.slot) (zc8 t.pa) Y hY bf (zch _ _) hs;generalize s.c+s.p+t.page*16+t.slot=sa at *;generalize zc8 t.pa=ow at *;have l:Hid (∀ Y,At3 q p b w Y (za7 s {t with done:=true} (ptrV t.put q2)) 216 (m.store t.c sa ow)->zce q q2 p b t.put.isSome w Y (.returned (.tuple #[])) s r.1 r.2):=hd' fun Y o=>by rw[n];exact j.out Y _ _ rfl o
  clear n j c1 c2 c3 c4 c5 c6 c7 c8 c9 B U J h L C T n1 n2 N bg bw bh bf bi I bq;generalize ptrV t.put q2=pv at *;generalize t.put.isSome=has at *;obtain⟨sp,sc,sm⟩:=s;obtain⟨tc,ta,tg,tl,tw,pk,pa,pb,tn,ti,cb,b2,ca⟩:=t;dsimp only at F H E l n3 hd ⊢;subst n3 hd;replace F:=hd' F;replace H:=hd' H;replace E:=hd' E;have lq:=h0.lt;obtain⟨c0,c1,c2,c3,c4,c5,c6⟩:=ci7 sp sc sm tc ta tg tl h0.cell;have c7:=ce (.int .u64 tw) (h0.cell 7);have c8:=ci pk (h0.cell 8);have c9:=ci pa (h0.cell 9);have B:=ci pb (h0.cell 10);have bk:=ci 3 (h0.cell 11);have bm:=ci ti (h0.cell 12);have bn:=ce (pv) (h0.cell 13);have bp:=ce (.bool b2) (h0.cell 14);have b3:=ce (.bool false) (h0.cell 15);go_in;go_upto_region 10 with fail;refine wret 25 ?_;repeat (go_big_quiet_step ((first|(go_at_call 96;exact zam (F.out _))|(go_at_call 110;exact zam (H.out _)))))
  refine wqn fun Z bs=>?_;have hZ:=h0.below bs;clear c0 c1 c2 c3 c4 c5 c6 c7 c8 c9 B bk bm bn bp b3 h0 lq;go_wp2_with (go_at_call 185;(with_reducible refine(E.out _ hZ.wds).mono ?_);rintro r1 w2 ⟨rfl,bx,bv⟩;have o:=hZ.access bx bv;have cd:=ce (.bool false) (o.cell 15);have zf:=o.free);go_returns;exact l.out _ (o.set 15 _)
 rw[if_neg n3]at n;have n4:t.next=4:=by omega
 rw[n4]at I;have B:=B n4;have ba:1<=t.pa/\t.pa<=8/\t.pa<=s.p-t.page:=by rcases c6 (by omega) with h1|h1;exact h1.2;omega
 have b4:=hd' (zvp q p b s t (ptrV t.put q2) m w h0 J hs c2 ba B.2);have b1:r.1=if t.i=t.pa-1 then {t with done:=true} else {t with i:=t.i+1}:=by rw[n];split<;>rfl
 have bb:r.2=if t.i=t.pa-1 then m.store t.c (zak s.p s.c s.m t.page) 0 else m.store t.c (zak s.p s.c s.m (t.page+t.i+1)) 0:=by rw[n];split<;>rfl
 rw[<-b1,<- bb]at b4;have bc:r.1.put=t.put:=by rw[b1];split<;>rfl
 have l:Hid (∀ Y,At3 q p b w Y (za7 s r.1 (ptrV t.put q2)) 216 r.2->zce q q2 p b t.put.isSome w Y (.returned (.tuple #[])) s r.1 r.2):=hd' fun Y o=>j.out Y _ _ bc o;clear n b1 bb bc j c1 c2 c3 c4 c5 c6 c7 c8 c9 B U J h L C T n1 n2 n3 n4 hd ba;go_in;go_wp2_with (go_at_call 204;(with_reducible refine b4.out.mono ?_);rintro r1 w1 ⟨rfl,o⟩);go_returns;exact l.out _ o
def zby (s:Sh) (t:Rr) (v1 v2 v3 v4:Value):Array Value:= #[s.p,s.c,s.m,t.c,v1,v2,v3,v4,t.err,t.done]
attribute [local go_sem] zby

def FeO (F:Nat->Prop) (w:World) (q:Nat) (s:Sh) (t:Fe):Prop:=F q/\∃ q2,FeAt w q q2 s t/\(t.put≠none->F q2)
theorem FeAt.znz{w w':World}{q q2:Nat}{s:Sh}{t:Fe}{G:Nat->Prop}(h:FeAt w q q2 s t)(f:Only G w w')(h1:¬ G q)(h2:t.put≠none->¬ G q2):FeAt w' q q2 s t:=
 ⟨h.row.only f h1,fun x b=>⟨(h.inn x b).1.only f (h2 (by rw[b];exact fun e=>by cases e)),(h.inn x b).2⟩⟩
theorem FeO.only{F G:Nat->Prop}{w w':World}{q:Nat}{s:Sh}{t:Fe}(h:FeO F w q s t)(b:Only G w w')(hd:∀ k,F k->¬ G k):FeO F w' q s t:=by
 obtain⟨h1,q2,h2,h3⟩:=h;exact⟨h1,q2,h2.znz b (hd q h1) (fun e=>hd q2 (h3 e)),h3⟩
theorem zw0{F:Nat->Prop}{q p b:Nat}{s:Sh}{t:Fe}{m:Mem}{w:World}(h:FeO F w q s t)(B:zaq w p b m)(o:¬ F p)(hb:¬ F b)(y:Fits s m)(z:feOk s t)(hs:m.st<1000000000):
  Calls Tryz.prog 199 #[some q,some p] w fun e w'=>zef F p b w w' e (zca s t m).2/\FeO (grow F w w') w' q s (zca s t m).1:=by
 obtain⟨h1,q2,h2,h3⟩:=h;refine(zyu q q2 p b s t m w h2 B (fun e=>o (e ▸ h1)) (fun e=>hb (e ▸ h1)) (fun l=>⟨fun e=>o (e ▸ h3 l),fun e=>hb (e ▸ h3 l)⟩) y z hs).mono fun e w' hS=>?_;have l:t.put.isSome=true->F q2:=fun e=>h3 (fun r=>by rw[r]at e;cases e);obtain⟨q3,h4,i⟩:=hS.at';refine⟨⟨hS.ret,hS.wds,hS.only.weak fun k j=>?_⟩,.inl h1,q3,h4,fun n=>?_⟩
 ·rcases j with rfl|⟨e,rfl⟩|j|j
  ·exact .inl h1
  ·exact .inl (l e)
  ·exact .inr (.inl j)
  exact .inr (.inr j)
 rcases i with⟨rfl,i⟩|i
 ·cases hi:t.put.isSome
  ·exact absurd (i hi) n
  exact .inl (l hi)
 rcases hq:(zca s t m).1.put with _|x
 ·exact absurd hq n
 exact .inr ⟨i,(h4.inn x hq).1.lt⟩
theorem zzc(q:Nat)(cs:Array Value)(v:Bool)(w:World)(h:zaa w q cs 219)(b:cs[9]?=some (.bool v)):Calls Tryz.prog 211 #[some q] w fun e w'=>e= .returned (.bool v)/\w'=w:=by
 have c:=(h.cell 9).trans b;clear h b;go_in;go_wp2_with fail;go_returns;exact⟨rfl,rfl⟩
theorem zzz(q:Nat)(s:Sh)(t:Rr)(j l m n:Value)(w:World)(b:zaa w q (zby s t j l m n) 219):
  Calls Tryz.prog 217 #[some q] w fun e w'=>e= .returned (.int .i64 t.err)/\w'=w:=by
 have i:=b.cell;clear b;go_in;go_wp2_with fail;go_returns;exact⟨rfl,rfl⟩
theorem zsi(q:Nat)(s:Sh)(t:Rr)(p r y z:Value)(x:Int)(w:World)(l:zaa w q (zby s t p r y z) 219):
  Calls Tryz.prog 107 #[some q,x] w fun e w'=>Turned q w w' e (zby s {t with err:=x,done:=true} p r y z) 219:=by
 have h0:=At1.start l;clear l;obtain⟨sp,C,D⟩:=s;obtain⟨E,o,i,j,m,n,b⟩:=t;have B:=h0.cell;have F:=h0.free;go_in;go_wp2_with fail;go_returns;exact((h0.set 8 _).set 9 _).fin rfl
theorem zyg(q q2:Nat)(s:Sh)(t:Rr)(f:Fe)(n o p y:Value)(w:World)(j:zaa w q (zby s t o (.pointer (some ⟨q2,0,.none⟩)) p y) 219)(i:zaa w q2 (za7 s f n) 216):
  Calls Tryz.prog 218 #[some q] w fun e w'=>e= .returned (.bool f.gave)/\w'=w:=by
 have l:=j.cell;have m:=hd' (zh8 q2 _ f.gave w i rfl);clear j i;go_in;go_wp2_with (go_at_call 126;(with_reducible refine m.out.mono ?_);rintro r z ⟨rfl,b⟩;obtain rfl:=b.symm);go_returns;exact⟨rfl,rfl⟩
theorem zob(q:Nat)(s:Sh)(t:Rr)(m n o:Value)(w:World)(i:zaa w q (zby s t m (.pointer none) n o) 219):
  Calls Tryz.prog 218 #[some q] w fun e w'=>e= .returned (.bool false)/\w'=w:=by
 have j:=i.cell;have l:=hd' (zoc w);clear i;go_in;go_wp2_with (go_at_call 126;(with_reducible refine l.out.mono ?_);rintro r p ⟨rfl,b⟩;obtain rfl:=b.symm);go_returns;exact⟨rfl,rfl⟩
end Go.Proofs.YtedcnffebdpmmaaGreat
