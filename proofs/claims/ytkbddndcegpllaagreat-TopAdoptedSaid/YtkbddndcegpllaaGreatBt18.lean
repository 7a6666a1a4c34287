/- Texts bound together: FreeU RenW QLas2 MdlP MdlL RwC MdlF. -/
import Derived.Laws.CopyRow

import Derived.Lib.Overlaps

import Derived.Test.YtkbddndcegpllaaGreatBt17

set_option linter.all false
set_option maxHeartbeats 2000000
set_option maxRecDepth 100000
namespace Go.Proofs.YtkbddndcegpllaaGreat

attribute [local go_sem] za7 zeh

section

open Go.RowKit

attribute [local go_sem ↓] Go.wp_at_zero Go.wp_at_succ

structure zce (q q2 p b:Nat) (has:Bool) (w w':World) (e:Ending) (s:Sh) (t:Fe) (m:Mem):Prop where
 ret:e= .returned (.tuple #[])
 at':∃ q3,FeAt w' q q3 s t/\(q3=q2/\(has=false->t.put=none)\/w.heap.size<=q3)
 wds:zaq w' p b m
 only:Only (fun k=> k=q\/(has=true/\k=q2)\/k=p\/k=b) w w'
theorem zce.zoq{q q2 p b:Nat}{w w':World}{s:Sh}{t t':Fe}{m:Mem}(h:FeAt w q q2 s t)(z:t.put≠none->q2≠p/\q2≠b)(i:At3 q p b w w' (za7 s t' (ptrV t'.put q2)) 276 m)(r:t'.put=t.put):zce q q2 p b t.put.isSome w w' (.returned (.tuple #[])) s t' m:=by
 refine⟨rfl,⟨q2,⟨i.row,fun x j=>?_⟩,.inl ⟨rfl,fun e=>?_⟩⟩,i.wds,i.only.weak fun k f=>?_⟩
 ·rw[r]at j;obtain⟨y,n⟩:=h.inn x j;have o:=z (by rw[j];exact fun e=>by cases e);exact⟨y.only i.only (by rintro(e|e|e);exact n e.symm;exact o.1 e;exact o.2 e),n⟩
 ·rw[r];exact isSome_none e
 rcases f with f|f|f
 ·exact .inl f
 ·exact .inr (.inr (.inl f))
 exact .inr (.inr (.inr f))
theorem zpj(q p b:Nat)(s:Sh)(t:Fe)(I:Value)(m:Mem)(w:World)(C:At3 q p b w w (za7 s t I) 276 m)(hf:Fits s m)(hs:m.st<1000000000)(V:0<=t.page/\t.page<s.p)(U:t.pk=3)(hw:0<=t.word/\t.word<18446744073709551616):
  Calls Tryz.prog 274 #[some q,some p] w fun e w'=>e= .returned (.tuple #[])/\At3 q p b w w' (za7 s (t.claim s m).1 I) 276 (t.claim s m).2/\(t.claim s m).1.put=t.put:=by
 obtain⟨F,X⟩:=hf.page V;have i:=fun Y=>planPage_any s.p s.c s.m t.page Y;rw[F]at i;have n:=fun Y=>zcd 1 t.c 0 Y;have S:Hid (zf4 t.c=zb8 1 t.c 0):=hd' rfl;rw[<-S.out]at n;have z:=fun Y (hY:zaq Y p b m)=>zff p b m t.c (s.c+t.page) t.word (zf4 t.c) Y hY X (zc0 _ _ _) hs;have hr:t.claim s m=({t with gave:=decide (m.get (s.c+t.page)=t.word),next:=4,done:= !decide (m.get (s.c+t.page)=t.word)},m.swap t.c (s.c+t.page) t.word (zf4 t.c)):=by unfold Fe.claim;rw[if_pos U,F]
 rw[hr];clear hr F X V hf S hw;generalize s.c+t.page=G at *;generalize zf4 t.c=hw at *;generalize decide (m.get G=t.word)=g at *;dsimp only;obtain⟨sp,sc,sm⟩:=s;obtain⟨J,ta,tg,tl,L,pk,pa,pb,tn,ti,y,o,j⟩:=t;dsimp only at i z U ⊢;subst U;replace i:=hd' i;replace n:=hd' n;replace z:=hd' z;have lq:=C.lt;have b0:=C.cell;go_in;go_upto_region 1 with fail;go_cut [1] (fun s1 wx=>s1= .pointer (some ⟨p,0,.none⟩)/\At3 q p b w wx (za7 ⟨sp,sc,sm⟩ ⟨J,ta,tg,tl,L,3,pa,pb,tn,ti,y,g,j⟩ I) 276 (m.swap J G L hw));case first=>
  refine zcx 28 (last:= { dst:=none,op:=Op.store 4 (Operand.tmp 38) (Operand.tmp 36),type:=0,pos:=_,after:=_,guard:=none}) (x:=zbb 60) (ld:=25) (v:= .bool g) (ts:= [12,16,25,29,35])
   (K0:=fun Y=>At3 q p b w Y (za7 ⟨sp,sc,sm⟩ ⟨J,ta,tg,tl,L,3,pa,pb,tn,ti,y,o,j⟩ I) 276 m) (K1:=fun Y=>At3 q p b w Y (za7 ⟨sp,sc,sm⟩ ⟨J,ta,tg,tl,L,3,pa,pb,tn,ti,y,o,j⟩ I) 276 (m.swap J G L hw))
   (by kernel_rfl) rfl (by kernel_rfl) (by simp only[List.take,zbb,zfq,zej,nopO,nopC,Nat.reduceBEq,Bool.or_false,Bool.or_true,Bool.false_eq_true,↓reduceIte,Nat.reduceAdd];exact rfl) (by kernel_rfl) (by kernel_rfl) (by kernel_rfl) (by simp[zbb]) (by simp[zbb]) (by simp[zbb]) (by simp[zbb]) (by kernel_rfl) (by simp[zbb]) (by simp[zbb])
   ⟨⟨fun Y Y' N O H=>N.far O H C.only.size⟩,⟨fun Y Y' N O H=>N.far O H C.only.size⟩⟩ C.drew ?_
  apply Exists.intro;refine⟨fun B hb hs=>?_,fun h=>(by simp[zbb]at h),fun Q0=>?_,?_⟩;case refine_1=>
   have Z:zaa B q (za7 ⟨sp,sc,sm⟩ ⟨J,ta,tg,tl,L,3,pa,pb,tn,ti,y,o,j⟩ I) 276:=hb.elim (fun h=>h.row) (fun h=>h.row);have lB:=Z.lt;have b2:=Z.cell;repeat (go_big_quiet_step ((first|(go_at_call 119;exact zam (i.out _))|(go_at_call 154;exact zam (n.out _)))))
   exact wpQuiet_nil rfl
  case refine_2=>exact zcz rfl (fun _ _=>by simp[go_sem]) fun Y R hs=>(z.out Y R.wds).mono fun r Y' ⟨N,O,H⟩=>⟨N,R.access O H,H.weak fun k U=>by rcases U with rfl|rfl;exact C.ls.2.1;exact C.ls.2.2⟩
  case refine_3=>intro a w4 M hf;obtain⟨rfl,b1,D,_⟩:=hf;have b3:=D.cell;have zf:=D.free;have hB:=D.set 14 (.bool g);simp only[zbb,vput,List.take,List.size_toArray,List.length_cons,List.length_nil,Nat.reduceAdd,Nat.reduceLT,decide_false,Bool.false_eq_true,if_false];go_wp2;go_meet;exact⟨rfl,hB⟩
 case rest=>obtain⟨rfl,hA⟩:=hcut;clear C z i n b0 lq;have b4:=hA.cell;have zf:=hA.free;go_wp2_with fail;go_returns;exact⟨rfl,(hA.set 11 _).set 15 _,by first|rfl|trivial⟩
theorem zsz(q q2 p b:Nat)(s:Sh)(t:Fe)(m:Mem)(w:World)(h:FeAt w q q2 s t)(hw:zaq w p b m)(bx:q≠p)(bw:q≠b)(bb:t.put≠none->q2≠p/\q2≠b)(hf:Fits s m)(hs:m.st<1000000000)(bc:0<=t.page/\t.page<s.p)(N:t.pk=2)(bj:0<zah t.pa/\(0<=t.slot/\t.slot<zah t.pa)):
  Calls Tryz.prog 274 #[some q,some p] w fun e w'=>zce q q2 p b t.put.isSome w w' e s (t.claim s m).1 (t.claim s m).2:=by
 have h0:At3 q p b w w (za7 s t (ptrV t.put q2)) 276 m:=At3.start h.row hw bx bw;have bz:=zdg bj.1;obtain⟨b5,bi⟩:=hf.slot bc (i:=t.slot) (by omega);have D:=fun Y=>zbm s.p s.c s.m t.page t.slot Y;rw[b5]at D;have J:=fun Y=>zbl 3 t.pa Y;have L:=fun Y=>zbl 2 t.c Y;have bk:Hid (zfl t.pa=zc3 3 t.pa):=hd' rfl;have bm:Hid (wayW t.c=zc3 2 t.c):=hd' rfl;rw[<-bk.out]at J;rw[<-bm.out]at L;have X:=fun Y (hY:zaq Y p b m)=>zff p b m t.c (s.c+s.p+t.page*16+t.slot) (zfl t.pa) (wayW t.c) Y hY bi (zch _ _) hs;have O:=fun Y=>z00 s t.c t.page t.slot t.pa Y;obtain⟨r,hr⟩:∃ r,r=t.claim s m:=⟨_,rfl⟩;rw[<-hr];unfold Fe.claim at hr;rw[if_neg (by omega),b5]at hr;dsimp only at hr;generalize s.c+s.p+t.page*16+t.slot=sa at *;generalize zfl t.pa=I at *;generalize wayW t.c=ww at *;generalize decide (m.get sa=I)=g at *;generalize bs:zg5 s t.c t.page t.slot t.pa=F at *;have n:Hid (∀ Y,¬ t.pb=t.c->At3 q p b w Y (za7 s {t with gave:=g,next:=3,done:= !g} (ptrV t.put q2)) 276 (m.swap t.c sa I ww)->zce q q2 p b t.put.isSome w Y (.returned (.tuple #[])) s r.1 r.2):=hd' fun Y bu hA=>by rw[hr,if_neg bu];exact zce.zoq h bb hA rfl
 have o:Hid (∀ Y q3,t.pb=t.c->w.heap.size<=q3->zaa Y q3 (zeh s F) 356->At3 q p b w Y (za7 s { (({t with gave:=g,next:=2,put:=some F}:Fe).kept) with done:= !g} (.pointer (some ⟨q3,0,.none⟩))) 276 (m.swap t.c sa I ww)->zce q q2 p b t.put.isSome w Y (.returned (.tuple #[])) s r.1 r.2):=hd' fun Y q3 he Z bh hA=>by
  rw[hr,if_pos he];have ba:(({t with gave:=g,next:=2,put:=some F}:Fe).kept).put=some F:=by rcases zcv ({t with gave:=g,next:=2,put:=some F}:Fe) F rfl with⟨_,e⟩|⟨_,_,e⟩|⟨_,_,e⟩<;>rw[e]
  refine⟨rfl,⟨q3,⟨by show zaa Y q (za7 s _ (ptrV (({t with gave:=g,next:=2,put:=some F}:Fe).kept).put q3)) _;rw[ba];exact hA.row,fun z hz=>?_⟩,.inr Z⟩,hA.wds,hA.only.weak fun k N=>?_⟩
  ·have hz:(({t with gave:=g,next:=2,put:=some F}:Fe).kept).put=some z:=hz;rw[ba]at hz;obtain rfl:=Option.some.inj hz;exact⟨bh,by have:=h0.ls;omega⟩
  rcases N with N|N|N
  ·exact .inl N
  ·exact .inr (.inr (.inl N))
  exact .inr (.inr (.inr N))
 have y:=fun Y q3 (hY:FeAt Y q q3 s {t with gave:=g,next:=2,put:=some F})=>zoz q q3 s {t with gave:=g,next:=2,put:=some F} F Y hY rfl;have b2:(({t with gave:=g,next:=2,put:=some F}:Fe).kept).gave=g:=by rcases zcv ({t with gave:=g,next:=2,put:=some F}:Fe) F rfl with⟨_,e⟩|⟨_,_,e⟩|⟨_,_,e⟩<;>rw[e]
 generalize bq:(({t with gave:=g,next:=2,put:=some F}:Fe).kept)=tk at *;replace b2:=hd' b2
 have b0:Hid (∀ Y q3,zaa Y q3 (zeh s F) 356->q≠q3->zaa Y q (za7 s {t with gave:=g,next:=2} (.pointer (some ⟨q3,0,.none⟩))) 276->FeAt Y q q3 s {t with gave:=g,next:=2,put:=some F}):=hd' fun Y q3 h1 h2 Z=>⟨Z,fun z hz=>by
  simp only[Option.some.injEq]at hz
  subst hz
  exact⟨h1,h2⟩⟩
 clear hr bs bq b5 bi bc hf bk bm bj bz h hw bb;generalize ptrV t.put q2=pv at *;generalize t.put.isSome=has at *;generalize zeh s F=cd at *;obtain⟨sp,sc,sm⟩:=s;obtain⟨tc,ta,tg,tl,tw,pk,pa,pb,tn,ti,C,H,j⟩:=t;dsimp only at D J L X O N n o y b0 ⊢;subst N;replace D:=hd' D;replace J:=hd' J;replace L:=hd' L;replace X:=hd' X;replace O:=hd' O;replace y:=hd' y;have lq:=h0.lt;have bn:=h0.cell;go_in;go_upto_region 4 with(go_at_call 156;(with_reducible refine(J.out _).mono ?_);rintro r1 w1 ⟨rfl,b8⟩;have hX:=h0.below b8);clear bn lq;go_cut [1] (fun s1 wx=>s1= .pointer (some ⟨p,0,.none⟩)/\At3 q p b w wx (za7 ⟨sp,sc,sm⟩ ⟨tc,ta,tg,tl,tw,2,pa,pb,tn,ti,C,g,j⟩ pv) 276 (m.swap tc sa I ww));case first=>
  refine zcx 29 (last:= { dst:=none,op:=Op.store 4 (Operand.tmp 77) (Operand.tmp 75),type:=0,pos:=_,after:=_,guard:=none}) (x:=zbb 90) (ld:=26) (v:= .bool g) (ts:= [50,54,67,68,74])
   (K0:=fun Y=>At3 q p b w Y (za7 ⟨sp,sc,sm⟩ ⟨tc,ta,tg,tl,tw,2,pa,pb,tn,ti,C,H,j⟩ pv) 276 m) (K1:=fun Y=>At3 q p b w Y (za7 ⟨sp,sc,sm⟩ ⟨tc,ta,tg,tl,tw,2,pa,pb,tn,ti,C,H,j⟩ pv) 276 (m.swap tc sa I ww))
   (by kernel_rfl) rfl (by kernel_rfl) (by simp only[List.take,zbb,zfq,zej,nopO,nopC,Nat.reduceBEq,Bool.or_false,Bool.or_true,Bool.false_eq_true,↓reduceIte,Nat.reduceAdd];exact rfl) (by kernel_rfl) (by kernel_rfl) (by kernel_rfl) (by simp[zbb]) (by simp[zbb]) (by simp[zbb]) (by simp[zbb]) (by kernel_rfl) (by simp[zbb]) (by simp[zbb])
   ⟨⟨fun Y Y' h1 h2 Z=>h1.far h2 Z hX.only.size⟩,⟨fun Y Y' h1 h2 Z=>h1.far h2 Z hX.only.size⟩⟩ hX.drew ?_
  apply Exists.intro;refine⟨fun B hb hs=>?_,fun h=>(by simp[zbb]at h),fun Q0=>?_,?_⟩;case refine_1=>
   have bg:zaa B q (za7 ⟨sp,sc,sm⟩ ⟨tc,ta,tg,tl,tw,2,pa,pb,tn,ti,C,H,j⟩ pv) 276:=hb.elim (fun h=>h.row) (fun h=>h.row);have lB:=bg.lt;have c6:=bg.cell;repeat (go_big_quiet_step ((first|(go_at_call 121;exact zam (D.out _))|(go_at_call 156;exact zam (L.out _)))))
   exact wpQuiet_nil rfl
  case refine_2=>exact zcz rfl (fun _ _=>by simp[go_sem]) fun Y b7 hs=>(X.out Y b7.wds).mono fun r Y' ⟨h1,h2,Z⟩=>⟨h1,b7.access h2 Z,Z.weak fun k N=>by have:=hX.only.size;rcases N with rfl|rfl;exact Nat.lt_of_lt_of_le h0.ls.2.1 this;exact Nat.lt_of_lt_of_le h0.ls.2.2 this⟩
  case refine_3=>intro a w4 M hf;obtain⟨rfl,c5,b1,_⟩:=hf;have c7:=b1.cell;have zf:=b1.free;have hB:=b1.set 14 (.bool g);simp only[zbb,vput,List.take,List.size_toArray,List.length_cons,List.length_nil,Nat.reduceAdd,Nat.reduceLT,decide_false,Bool.false_eq_true,if_false];go_wp2;go_meet;exact⟨rfl,hB⟩
 case rest=>
  obtain⟨rfl,hA⟩:=hcut;have cc:=h0.ls;clear h0 X D J L hX b8;have bp:=hA.cell;have zf:=hA.free;go_upto_region 6 with fail;have hB:=hA.set 11 (.int .i64 3);generalize World.setCell _ ⟨q,11,.none⟩ (.int .i64 3)=U at *;clear hA bp zf;replace hB:At3 q p b w U (za7 ⟨sp,sc,sm⟩ ⟨tc,ta,tg,tl,tw,2,pa,pb,3,ti,C,g,j⟩ pv) 276 (m.swap tc sa I ww):=hB;have lU:=hB.lt;have b6:=hB.cell;by_cases he:pb=tc
  ·replace o:=hd' (fun Y q3=>o.out Y q3 he);subst he;clear n;go_quiet (fail);have hC:=hB.drewN nq;clear hB b6 lU;generalize U.drewN nq=V at *;go_upto_region 7 with fail;have hS:=hd' (fun (Y:World) (v:Value) (h:zaa Y q (za7 ⟨sp,sc,sm⟩ ⟨pb,ta,tg,tl,tw,2,pa,pb,3,ti,C,g,j⟩ v) 276)=>(⟨h.cell 0,h.cell 1,h.cell 2,h.cell 3,h.cell 5,h.cell 6,h.cell 9⟩:Y.cell? ⟨q,0,.none⟩=some (.int .i64 sp)/\Y.cell? ⟨q,1,.none⟩=some (.int .i64 sc)/\Y.cell? ⟨q,2,.none⟩=some (.int .i64 sm)/\Y.cell? ⟨q,3,.none⟩=some (.int .i64 pb)/\Y.cell? ⟨q,5,.none⟩=some (.int .i64 tg)/\Y.cell? ⟨q,6,.none⟩=some (.int .i64 tl)/\Y.cell? ⟨q,9,.none⟩=some (.int .i64 pa)))
   go_region_held3 (fun Y=>Y.cell? ⟨q,0,.none⟩=some (.int .i64 sp)/\Y.cell? ⟨q,1,.none⟩=some (.int .i64 sc)/\Y.cell? ⟨q,2,.none⟩=some (.int .i64 sm)/\Y.cell? ⟨q,3,.none⟩=some (.int .i64 pb)/\Y.cell? ⟨q,5,.none⟩=some (.int .i64 tg)/\Y.cell? ⟨q,6,.none⟩=some (.int .i64 tl)/\Y.cell? ⟨q,9,.none⟩=some (.int .i64 pa))
    (first|exact hS.out _ _ hC.row.drew|exact hS.out _ _ hD.row|exact hS.out _ _ ((hD.set 13 _).row.cast rfl))
    (first|(go_at_call 279;(with_reducible refine(O.out _).mono ?_);rintro r w6 ⟨q3,rfl,bv,R,b9⟩;have hD:=hC.drew.below b9;have c4:=hD.cell 13;have zf:=hD.free))
   have hE:=hD.set 13 (.pointer (some ⟨q3,0,.none⟩));have G:q3≠q:=by have:=hC.lt;have hd:V.drew.heap.size=V.heap.size:=rfl;omega
   have bf:w.heap.size<=q3:=Nat.le_trans hC.only.size bv;have b3:=R.other G 13 (.pointer (some ⟨q3,0,.none⟩));generalize World.setCell w6 ⟨q,13,.none⟩ (.pointer (some ⟨q3,0,.none⟩))=T at *;clear hD c4 zf R b9 hC;replace hE:At3 q p b w T (za7 ⟨sp,sc,sm⟩ ⟨pb,ta,tg,tl,tw,2,pa,pb,3,ti,C,g,j⟩ (.pointer (some ⟨q3,0,.none⟩))) 276 (m.swap pb sa I ww):=hE;have c8:=hE.cell;have zf:=hE.free;have hG:=hE.set 11 (.int .i64 2);have S:=b3.other G 11 (.int .i64 2);go_wp2_with (first|(go_at_call 272;refine(y.out _ q3 (b0.out _ q3 S (fun e=>G e.symm) (hG.row.cast rfl))).mono ?_;rintro r w7 hT;obtain rfl:=hT.ret;have hJ:=hG.turned hT;have b4:=S.only hT.only G;have cf:w7.cell? ⟨q,14,.none⟩=some (.bool g):=(by rw[<-b2.out];exact hJ.cell 14);have c9:=hJ.cell;have yf:=hJ.free));go_returns;exact o.out _ q3 bf (b4.other G _ _) (hJ.set 15 _)
  replace n:=hd' (fun Y=>n.out Y he);have cb:(pb==tc)=false:=by simpa using he
  clear he o y O;go_quiet (fail);have hC:=hB.drewN nq;clear hB b6 lU;generalize U.drewN nq=V at *;have ca:=hC.cell;have zf:=hC.free;go_wp2_with fail;go_returns;exact n.out _ (hC.set 15 _)
theorem zyu(q q2 p b:Nat)(s:Sh)(t:Fe)(m:Mem)(w:World)(h:FeAt w q q2 s t)(U:zaq w p b m)(b3:q≠p)(b2:q≠b)(F:t.put≠none->q2≠p/\q2≠b)(O:Fits s m)(ho:feOk s t)(hs:m.st<1000000000):
  Calls Tryz.prog 271 #[some q,some p] w fun e w'=>zce q q2 p b t.put.isSome w w' e s (zca s t m).1 (zca s t m).2:=by
 rcases Bool.eq_false_or_eq_true t.done with hd|hd
 ·have o:zca s t m=(t,m):=by unfold zca;rw[if_pos hd]
  rw[o];dsimp only;have b9:w.cell? ⟨q,15,.none⟩=some (.bool true):=by rw[<-hd];exact h.row.cell 15
  have j:zce q q2 p b t.put.isSome w w (.returned (.tuple #[])) s t m:=⟨rfl,⟨q2,h,.inl ⟨rfl,isSome_none⟩⟩,U,Only.refl _ _⟩;replace j:=hd' j;clear h U hd o ho O F;go_in;go_wp2_with fail;go_returns;exact j.out
 obtain⟨c1,c2,c3,c4,c5,R,S,V,X,D⟩:=ho.cl hd;have J:At3 q p b w w (za7 s t (ptrV t.put q2)) 276 m:=At3.start h.row U b3 b2;have j:Hid (∀ Y (t':Fe) m',t'.put=t.put->At3 q p b w Y (za7 s t' (ptrV t.put q2)) 276 m'->zce q q2 p b t.put.isSome w Y (.returned (.tuple #[])) s t' m'):=hd' fun Y t' m' e C=>zce.zoq h F (by rw[e];exact C) e;have bz:w.cell? ⟨q,15,.none⟩=some (.bool false):=by rw[<-hd];exact h.row.cell 15
 have N:=ci t.next (h.row.cell 11);obtain⟨r,o⟩:∃ r,r=zca s t m:=⟨_,rfl⟩;rw[<-o];unfold zca at o;rw[if_neg (by rw[hd];decide)]at o;by_cases n0:t.next=0
 ·rw[if_pos n0]at o;have ca:=hd' (zy7 q p b s t (ptrV t.put q2) m w J O hs c2 c3);have bg:(t.look s m).1.put=t.put:=by unfold Fe.look;dsimp only;split<;>(try split)<;>rfl
  have n:Hid (∀ Y,At3 q p b w Y (za7 s (t.look s m).1 (ptrV t.put q2)) 276 (t.look s m).2->zce q q2 p b t.put.isSome w Y (.returned (.tuple #[])) s r.1 r.2):=hd' fun Y C=>by rw[o];exact j.out Y _ _ bg C
  rw[n0]at N;clear o j c1 c2 c3 c4 c5 R S V X D ho O h U F n0 hd bg;generalize t.look s m=lk at *;go_in;go_wp2_with (go_at_call 273;(with_reducible refine ca.out.mono ?_);rintro r1 w1 ⟨rfl,C⟩);go_returns;exact n.out _ C
 rw[if_neg n0]at o;by_cases n1:t.next=1
 ·rw[if_pos n1]at o;rw[n1]at N;have S:=S n1;rcases R (by omega) with⟨hk,_⟩|⟨hk,bf⟩
  ·have b0:=hd' (zpj q p b s t (ptrV t.put q2) m w J O hs c2 hk S);have n:Hid (∀ Y,At3 q p b w Y (za7 s (t.claim s m).1 (ptrV t.put q2)) 276 (t.claim s m).2/\(t.claim s m).1.put=t.put->zce q q2 p b t.put.isSome w Y (.returned (.tuple #[])) s r.1 r.2):=hd' fun Y C=>by rw[o];exact j.out Y _ _ C.2 C.1
   clear o j c1 c2 c3 c4 c5 R S V X D ho O h U F n0 n1 hd hk;generalize t.claim s m=lk at *;go_in;go_wp2_with (go_at_call 274;(with_reducible refine b0.out.mono ?_);rintro r1 w1 ⟨rfl,C⟩);go_returns;exact n.out _ C
  have b0:=hd' (zsz q q2 p b s t m w h U b3 b2 F O hs c2 hk bf);rw[<-o]at b0;clear o j c1 c2 c3 c4 c5 R S V X D ho O h U F n0 n1 hd hk bf;go_in;go_wp2_with (go_at_call 274;(with_reducible refine b0.out.mono ?_);rintro r1 w1 hS;obtain rfl:=hS.ret);go_returns;exact hS
 rw[if_neg n1]at o;by_cases n2:t.next=2
 ·rw[if_pos n2]at o;rw[n2]at N;obtain⟨hk,x,hx,bs,cf⟩:=V n2;rw[hx]at o;dsimp only at o;obtain⟨bc,b1⟩:=h.inn x hx;have b6:=F (by rw[hx];exact fun e=>by cases e);have I:=zxz q2 p b s x m w bc U b6.1 b6.2 O bs hs;have H:=h.row;rw[hx]at H;have cj:=ce (.pointer (some ⟨q2,0,.none⟩)) (H.cell 13);generalize zd3 s x m=ym at *;obtain⟨y,m2⟩:=ym;dsimp only at I o;have b4:=hd' (fun Y (hY:FeAt Y q q2 s {t with put:=some y})=>zoz q q2 s {t with put:=some y} y Y hY rfl)
  have bh:Hid (∀ Y e,Stepped q2 p b w Y e (zeh s y) 356 m2->FeAt Y q q2 s {t with put:=some y}):=hd' fun Y e hS=>⟨H.only hS.only (by rintro(e|e|e);exact b1 e;exact b3 e;exact b2 e),fun z hz=>by
   simp only[Option.some.injEq]at hz
   subst hz
   exact⟨hS.row,b1⟩⟩
  have b5:(({t with put:=some y}:Fe).kept).put=some y:=by rcases zcv ({t with put:=some y}:Fe) y rfl with⟨_,e⟩|⟨_,_,e⟩|⟨_,_,e⟩<;>rw[e]
  have bb:Hid (∀ Y e Z e2,Stepped q2 p b w Y e (zeh s y) 356 m2->Turned q Y Z e2 (za7 s (({t with put:=some y}:Fe).kept) (.pointer (some ⟨q2,0,.none⟩))) 276->zce q q2 p b t.put.isSome w Z (.returned (.tuple #[])) s r.1 r.2):=hd' fun Y e Z e2 hS C=>by
   rw[o];refine⟨rfl,⟨q2,⟨by show zaa Z q (za7 s _ (ptrV (({t with put:=some y}:Fe).kept).put q2)) _;rw[b5];exact C.row,fun z hz=>?_⟩,.inl ⟨rfl,fun e=>by rw[hx]at e;cases e⟩⟩,hS.wds.only C.only (fun e=>b3 e.symm) (fun e=>b2 e.symm),?_⟩
   ·have hz:(({t with put:=some y}:Fe).kept).put=some z:=hz;rw[b5]at hz;obtain rfl:=Option.some.inj hz;exact⟨hS.row.only C.only (fun e=>b1 e.symm),b1⟩
   refine(hS.only.weak (G:=fun k=>k=q\/(t.put.isSome=true/\k=q2)\/k=p\/k=b) fun k e=>?_).trans C.only (fun _ _ e=>.inl e);rcases e with e|e|e
   ·exact .inr (.inl ⟨by rw[hx];rfl,e⟩)
   ·exact .inr (.inr (.inl e))
   exact .inr (.inr (.inr e))
  replace I:=hd' I;clear o j J c1 c2 c3 c4 c5 R S V X D ho O h U n0 n1 n2 bc bs cf H b6 F b5 hd hk;generalize ({t with put:=some y}:Fe).kept=t2 at *;go_in;go_wp2_with (first|(go_at_call 275;(with_reducible refine I.out.mono ?_);rintro r1 w1 hS;obtain rfl:=hS.ret)|(go_at_call 272;refine(b4.out _ (bh.out _ _ hS)).mono ?_;rintro r2 w2 hT;obtain rfl:=hT.ret));go_returns;exact bb.out _ _ _ _ hS hT
 rw[if_neg n2]at o;by_cases n3:t.next=3
 ·rw[if_pos n3]at o;rw[n3]at N;have hk:=X n3;have bn:0<zah t.pa/\(0<=t.slot/\t.slot<zah t.pa):=by rcases R (by omega) with h1|h1;omega;exact h1.2
  have cc:=zdg bn.1;obtain⟨bp,bm⟩:=O.slot c2 (i:=t.slot) (by omega);have L:=fun Y=>zbm s.p s.c s.m t.page t.slot Y;rw[bp]at L o;have M:=fun Y=>zbl 1 t.pa Y;have bq:Hid (zc8 t.pa=zc3 1 t.pa):=hd' rfl;rw[<-bq.out]at M;have I:=fun Y (hY:zaq Y p b m)=>zba p b m t.c (s.c+s.p+t.page*16+t.slot) (zc8 t.pa) Y hY bm (zch _ _) hs;generalize s.c+s.p+t.page*16+t.slot=sa at *;generalize zc8 t.pa=ow at *;have n:Hid (∀ Y,At3 q p b w Y (za7 s {t with done:=true} (ptrV t.put q2)) 276 (m.store t.c sa ow)->zce q q2 p b t.put.isSome w Y (.returned (.tuple #[])) s r.1 r.2):=hd' fun Y C=>by rw[o];exact j.out Y _ _ rfl C
  clear o j c1 c2 c3 c4 c5 R S V X D ho O h U F n0 n1 n2 hk bn cc bp bm bq N bz;generalize ptrV t.put q2=pv at *;generalize t.put.isSome=has at *;obtain⟨sp,sc,sm⟩:=s;obtain⟨tc,ta,tg,tl,tw,pk,pa,pb,tn,ti,ch,b8,cg⟩:=t;dsimp only at L M I n n3 hd ⊢;subst n3 hd;replace L:=hd' L;replace M:=hd' M;replace I:=hd' I;have lq:=J.lt;obtain⟨c0,c1,c2,c3,c4,c5,R⟩:=ci7 sp sc sm tc ta tg tl J.cell;have S:=ce (.int .u64 tw) (J.cell 7);have V:=ci pk (J.cell 8);have X:=ci pa (J.cell 9);have D:=ci pb (J.cell 10);have bu:=ci 3 (J.cell 11);have bv:=ci ti (J.cell 12);have bw:=ce (pv) (J.cell 13);have bx:=ce (.bool b8) (J.cell 14);have b9:=ce (.bool false) (J.cell 15);go_in;go_upto_region 10 with fail;refine zad 25 (by kernel_rfl) (by kernel_rfl) ?_;dsimp only[List.take,List.drop];repeat (go_big_quiet_step ((first|(go_at_call 121;exact zam (L.out _))|(go_at_call 156;exact zam (M.out _)))))
  refine wpQuiet_nil ?_;rintro _ ⟨e',rfl⟩;have hZ:=J.below e'.below;generalize e'.w=Z at *;change wpList _ _ _ _ _ Z;clear c0 c1 c2 c3 c4 c5 R S V X D bu bv bw bx b9 J lq;go_wp2_with (go_at_call 257;(with_reducible refine(I.out _ hZ.wds).mono ?_);rintro r1 w2 ⟨rfl,cd,cb⟩;have C:=hZ.access cd cb;have ck:=ce (.bool false) (C.cell 15);have zf:=C.free);go_returns;exact n.out _ (C.set 15 _)
 rw[if_neg n3]at o;have n4:t.next=4:=by omega
 rw[n4]at N;have D:=D n4;have bi:1<=t.pa/\t.pa<=8/\t.pa<=s.p-t.page:=by rcases R (by omega) with h1|h1;exact h1.2;omega
 have ba:=hd' (zvp q p b s t (ptrV t.put q2) m w J O hs c2 bi D.2);have b7:r.1=if t.i=t.pa-1 then {t with done:=true} else {t with i:=t.i+1}:=by rw[o];split<;>rfl
 have bj:r.2=if t.i=t.pa-1 then m.store t.c (zak s.p s.c s.m t.page) 0 else m.store t.c (zak s.p s.c s.m (t.page+t.i+1)) 0:=by rw[o];split<;>rfl
 rw[<-b7,<- bj]at ba;have bk:r.1.put=t.put:=by rw[b7];split<;>rfl
 have n:Hid (∀ Y,At3 q p b w Y (za7 s r.1 (ptrV t.put q2)) 276 r.2->zce q q2 p b t.put.isSome w Y (.returned (.tuple #[])) s r.1 r.2):=hd' fun Y C=>j.out Y _ _ bk C;clear o b7 bj bk j c1 c2 c3 c4 c5 R S V X D ho O h U F n0 n1 n2 n3 n4 hd bi;go_in;go_wp2_with (go_at_call 276;(with_reducible refine ba.out.mono ?_);rintro r1 w1 ⟨rfl,C⟩);go_returns;exact n.out _ C
def zby (s:Sh) (t:Rr) (v1 v2 v3 v4:Value):Array Value:= #[s.p,s.c,s.m,t.c,v1,v2,v3,v4,t.err,t.done]
attribute [local go_sem] zby

def FeO (F:Nat->Prop) (w:World) (q:Nat) (s:Sh) (t:Fe):Prop:=F q/\∃ q2,FeAt w q q2 s t/\(t.put≠none->F q2)
theorem FeAt.znz{w w':World}{q q2:Nat}{s:Sh}{t:Fe}{G:Nat->Prop}(h:FeAt w q q2 s t)(f:Only G w w')(i:¬ G q)(j:t.put≠none->¬ G q2):FeAt w' q q2 s t:=
 ⟨h.row.only f i,fun x b=>⟨(h.inn x b).1.only f (j (by rw[b];exact fun e=>by cases e)),(h.inn x b).2⟩⟩
theorem FeO.only{F G:Nat->Prop}{w w':World}{q:Nat}{s:Sh}{t:Fe}(h:FeO F w q s t)(j:Only G w w')(hd:∀ k,F k->¬ G k):FeO F w' q s t:=by
 obtain⟨b,q2,i,f⟩:=h;exact⟨b,q2,i.znz j (hd q b) (fun e=>hd q2 (f e)),f⟩
theorem zw0{F:Nat->Prop}{q p b:Nat}{s:Sh}{t:Fe}{m:Mem}{w:World}(h:FeO F w q s t)(J:zaq w p b m)(C:¬ F p)(hb:¬ F b)(H:Fits s m)(I:feOk s t)(hs:m.st<1000000000):
  Calls Tryz.prog 271 #[some q,some p] w fun e w'=>zef F p b w w' e (zca s t m).2/\FeO (grow F w w') w' q s (zca s t m).1:=by
 obtain⟨r,q2,G,y⟩:=h;refine(zyu q q2 p b s t m w G J (fun e=>C (e ▸ r)) (fun e=>hb (e ▸ r)) (fun n=>⟨fun e=>C (e ▸ y n),fun e=>hb (e ▸ y n)⟩) H I hs).mono fun e w' hS=>?_;have n:t.put.isSome=true->F q2:=fun e=>y (fun D=>by rw[D]at e;cases e);obtain⟨q3,z,i⟩:=hS.at';refine⟨⟨hS.ret,hS.wds,hS.only.weak fun k j=>?_⟩,.inl r,q3,z,fun o=>?_⟩
 ·rcases j with rfl|⟨e,rfl⟩|j|j
  ·exact .inl r
  ·exact .inl (n e)
  ·exact .inr (.inl j)
  exact .inr (.inr j)
 rcases i with⟨rfl,i⟩|i
 ·cases hi:t.put.isSome
  ·exact absurd (i hi) o
  exact .inl (n hi)
 rcases hq:(zca s t m).1.put with _|x
 ·exact absurd hq o
 exact .inr ⟨i,(z.inn x hq).1.lt⟩
theorem zzc(q:Nat)(cs:Array Value)(v:Bool)(w:World)(h:zaa w q cs 279)(b:cs[9]?=some (.bool v)):Calls Tryz.prog 283 #[some q] w fun e w'=>e= .returned (.bool v)/\w'=w:=by
 have c:=(h.cell 9).trans b;clear h b;go_in;go_wp2_with fail;go_returns;exact⟨rfl,rfl⟩
theorem zzz(q:Nat)(s:Sh)(t:Rr)(j m n o:Value)(w:World)(b:zaa w q (zby s t j m n o) 279):
  Calls Tryz.prog 289 #[some q] w fun e w'=>e= .returned (.int .i64 t.err)/\w'=w:=by
 have i:=b.cell;clear b;go_in;go_wp2_with fail;go_returns;exact⟨rfl,rfl⟩
theorem zsi(q:Nat)(s:Sh)(t:Rr)(y z C D:Value)(x:Int)(w:World)(n:zaa w q (zby s t y z C D) 279):
  Calls Tryz.prog 174 #[some q,x] w fun e w'=>Turned q w w' e (zby s {t with err:=x,done:=true} y z C D) 279:=by
 have b:=At1.start n;clear n;obtain⟨sp,G,H⟩:=s;obtain⟨I,r,j,m,o,p,i⟩:=t;have F:=b.cell;have J:=b.free;go_in;go_wp2_with fail;go_returns;exact((b.set 8 _).set 9 _).fin rfl
theorem zyg(q q2:Nat)(s:Sh)(t:Rr)(f:Fe)(o p y z:Value)(w:World)(j:zaa w q (zby s t p (.pointer (some ⟨q2,0,.none⟩)) y z) 279)(i:zaa w q2 (za7 s f o) 276):
  Calls Tryz.prog 290 #[some q] w fun e w'=>e= .returned (.bool f.gave)/\w'=w:=by
 have m:=j.cell;have n:=hd' (zh8 q2 _ f.gave w i rfl);clear j i;go_in;go_wp2_with (go_at_call 194;(with_reducible refine n.out.mono ?_);rintro r C ⟨rfl,b⟩;obtain rfl:=b.symm);go_returns;exact⟨rfl,rfl⟩
theorem zob(q:Nat)(s:Sh)(t:Rr)(n o p:Value)(w:World)(i:zaa w q (zby s t n (.pointer none) o p) 279):
  Calls Tryz.prog 290 #[some q] w fun e w'=>e= .returned (.bool false)/\w'=w:=by
 have j:=i.cell;have m:=hd' (zoc w);clear i;go_in;go_wp2_with (go_at_call 194;(with_reducible refine m.out.mono ?_);rintro r y ⟨rfl,b⟩;obtain rfl:=b.symm);go_returns;exact⟨rfl,rfl⟩
end

section

attribute [local go_sem] zby

open Go.RowKit

theorem ziv{P:Program}{Q:Exit->Act->World->Prop}{p q:Oper}{id:Nat}{a:Act}{W:World}{x:zd0}{ld:Nat}{v:Value}{K0 K1:World->Prop}{l l':List Oper}{ts:List Nat}(n:Nat)(hm:P.follows .mixedOrders=true)(hd:l.drop n= [p,q])(O:lastB (l.take n) p=true)(m:lastB (l.take n++[p]) q=true)
  (hl:zfq x ld v 0 (l.take n)=l') (hB:Region.lexB .any l'.toArray=true) (hf:zrg (l.take n).toArray x ld=true) (C:Region.noSelect (l.take n).toArray=true)
  (hn:x.al≠x.st/\x.al≠ld/\x.st≠ld/\x.src≠x.d) (L:ld<(l.take n).toArray.size/\(x.al<(l.take n).toArray.size↔x.st<(l.take n).toArray.size)) (U:x.so≠x.al/\x.so≠x.st) (S:x.al<(l.take n).toArray.size->x.so≠ld) (hw:zsq (l.take n).toArray x ld ts=true) (V:x.d ∉ ts) (y:x.d<a.tmps.size)
  (hc:zn6 W K0/\zn6 W K1) (Z:K0 W.drew)
  (t:∃ aF,(∀ B,K0 B\/K1 B->W.heap.size<=B.heap.size->wpQuiet P l'.toArray (fun w'=>∃ e:Ext B,w'=e.w) (fun Y=>Y=aF) l' a)/\(x.al<(l.take n).toArray.size->∀ F,ze2 P (l.take n) F aF x)/\(∀ F,zij P (l.take n) F aF W ld v ts K0 K1)/\
   ∀ a w M,zni W x K1 (l.take n).toArray.size aF a w M->wpList P l.toArray Q [p,q] a w):(Code.region id l.toArray true).wp P Q a W:=by
 have N:l=(l.take n++[p])++[q]:=by have h:=(List.take_append_drop n l).symm;rw[hd]at h;simpa using h
 obtain⟨aF,h1,G,H,h4⟩:=t;generalize b0:l.take n=f at *;subst N;have J:p.guard=none:=by simp only[lastB,Bool.and_eq_true]at m;have:=List.all_eq_true.1 m.1.1.1 p (by simp);simp only[Bool.and_eq_true,Option.isNone_iff_eq_none]at this;exact this.1
 have D:∀ k,Region.wanted p k=true:=fun k=>by unfold Region.wanted;rw[J]
 have h5:=zqg (P:=P) (Q:=fun e a w=>match e with | .normal=>wpList P ((f++[p])++[q]).toArray Q [p,q] a w|e=>Q e a w) hl hB hf C hn L U S hw V y hc Z ⟨aF,h1,fun hx=>G hx _,H _,h4⟩;have I:=zkz (P:=P) (Q:=fun e a w=>match e with | .normal=>wpList P ((f++[p])++[q]).toArray Q [q] a w|e=>Q e a w) O (fun e a w i j=>by cases e<;>first|exact absurd rfl i|exact j) (fun a w j=>?_) f.toArray.size (Array.replicate f.toArray.size false) a W.drew (by simp) (fun k o _ z=>by rw[getD_replicate_false]at z;cases z) h5
 ·have hr:(Array.replicate f.toArray.size false).push false=Array.replicate (f++[p]).toArray.size false:=by simp[Array.replicate_succ]
  rw[hr]at I;have X:f.toArray.size+1=(f++[p]).toArray.size:=by simp
  rw[X]at I;have h7:=zkz (P:=P) (Q:=Q) m (fun e a w i j=>by cases e<;>first|exact absurd rfl i|exact j) (fun a w j=>by unfold wpOp;rw[zhz];exact j) (f++[p]).toArray.size (Array.replicate (f++[p]).toArray.size false) a W.drew (by simp) (fun k o _ z=>by rw[getD_replicate_false]at z;cases z) I;refine wp_region_any hm ?_;have hz:((f++[p])++[q]).toArray.size=(f++[p]).toArray.size+1:=by simp
  rw[hz];have R:(Array.replicate (f++[p]).toArray.size false).push false=Array.replicate ((f++[p]).toArray.size+1) false:=by rw[Array.replicate_succ]
  rw[<-R];exact h7
 unfold wpOp;rw[zhz];simp only[D,if_true];have r:wpList P ((f++[p])++[q]).toArray Q [p,q] a w:=j;unfold wpList at r;simp only[D,if_true]at r;rcases r with h|⟨G,b,u,H⟩
 ·exact .inl (zpf h (fun e a w i j=>by cases e<;>first|exact absurd rfl i|exact j))
 exact .inr ⟨G,b,u,H⟩
end

section

attribute [local go_sem] zby

structure Bk where
 a:Int
 n:Int
 deriving DecidableEq
def okK (W:Int):Int->List Bk->Prop
 | lo, []=> lo<=W
 | lo,b::l=> lo<=b.a/\1<=b.n/\okK W (b.a + b.n) l
theorem okK.le{W:Int}{l:List Bk}:∀ {lo:Int},okK W lo l->lo<=W:=by
 induction l with
 |nil=>exact fun h=>h
 |cons b l f=>exact fun h=>by have:=f h.2.2;have:=h.1;have:=h.2.1;omega
theorem okK.mono{W:Int}{l:List Bk}{lo f:Int}(h:okK W lo l)(i:f<=lo):okK W f l:=by
 cases l with
 |nil=>exact Int.le_trans i h
 |cons b l=>exact⟨Int.le_trans i h.1,h.2⟩
theorem okK.mem{W:Int}{l:List Bk}:∀ {lo:Int},okK W lo l->∀ b ∈ l,lo<=b.a/\1<=b.n/\b.a+b.n<=W:=by
 induction l with
 |nil=>exact fun _ b hb=>by cases hb
 |cons c l f=>
  intro lo h b hb;rcases List.mem_cons.1 hb with rfl|hb
  ·exact⟨h.1,h.2.1,h.2.2.le⟩
  have:=f h.2.2 b hb;have:=h.1;have:=h.2.1;omega
def posB (at':Int):List Bk->Nat
 | []=> 0
 | b::l=> if b.a < at' then posB at' l + 1 else 0
def zd6 (at':Int) (l:List Bk):Bool:=decide (∃ b,l[posB at' l]?=some b/\b.a=at')
theorem yck(at':Int)(l:List Bk):posB at' l<=l.length:=by
 induction l with
 |nil=>exact Nat.le_refl _
 |cons b l f=>simp only[posB,List.length_cons];split<;>omega
theorem zo8(at':Int)(l:List Bk)(i:Nat)(hi:i<posB at' l)(h:i<l.length):l[i].a<at':=by
 induction l generalizing i with
 |nil=>simp at h;|cons b l f=>
  simp only[posB]at hi;split at hi
  ·rename_i hb;cases i with
   |zero=>exact hb
   |succ i=>exact f i (by omega) (by simpa using h)
  omega
theorem z92(at':Int)(l:List Bk)(h:posB at' l<l.length):at'<=l[posB at' l].a:=by
 induction l with
 |nil=>simp at h;|cons b l f=>
  by_cases hb:b.a<at'
  ·simp only[posB,if_pos hb,List.getElem_cons_succ];exact f (by simpa[posB,hb] using h)
  simp only[posB,if_neg hb,List.getElem_cons_zero];omega
theorem okK.lt{W:Int}{l:List Bk}{lo:Int}(h:okK W lo l):∀ i j (_:i<j) (m:j<l.length),(l[i]'(by omega)).a+(l[i]'(by omega)).n<=l[j].a:=by
 induction l generalizing lo with
 |nil=>exact fun i j _ m=>by simp at m
 |cons b l p=>
  intro i j o m
  cases j with
  |zero=>omega
  |succ j=>
   have f:j<l.length:=by simpa using m
   cases i with
   |zero=>exact(h.2.2.mem l[j] (List.getElem_mem f)).1
   |succ i=>exact p h.2.2 i j (by omega) f
theorem zvu(at':Int)(l:List Bk)(i:Nat)(hi:i<=l.length)(b:∀ k (_:k<i) (j:k<l.length),l[k].a<at')(f:∀ j:i<l.length,at'<=l[i].a):posB at' l=i:=by
 rcases Nat.lt_trichotomy (posB at' l) i with h|h|h
 ·have:=b _ h (by omega);have:=z92 at' l (by omega);omega
 ·exact h
 have m:=yck at' l;have:=zo8 at' l i h (by omega);have:=f (by omega);omega
theorem zop(at':Int)(l:List Bk):zd6 at' l=true↔∃ h:posB at' l<l.length,l[posB at' l].a=at':=by
 simp only[zd6,decide_eq_true_eq];constructor
 ·rintro⟨b,f,i⟩;obtain⟨j,rfl⟩:=List.getElem?_eq_some_iff.1 f;exact⟨j,i⟩
 rintro⟨f,i⟩;exact⟨_,List.getElem?_eq_getElem f,i⟩
theorem zym{W lo at':Int}{l:List Bk}(h:okK W lo l):zd6 at' l=true↔∃ b ∈ l,b.a=at':=by
 rw[zop];constructor
 ·rintro⟨j,m⟩;exact⟨_,List.getElem_mem j,m⟩
 rintro⟨b,hb,rfl⟩;obtain⟨i,hi,rfl⟩:=List.getElem_of_mem hb;have o:=zvu l[i].a l i (by omega) (fun k n f=>by have:=h.lt k i n hi;have:=(h.mem _ (List.getElem_mem f)).2.1;omega) (fun _=>Int.le_refl _);exact⟨by omega,by simp only[o]⟩
def meets (b:Bk) (at' n:Int):Bool:=decide (b.a < at' + n/\at' < b.a + b.n)
def ydk (W at' n:Int):Bool:=decide (1<=n/\0<=at'/\at'<=W/\n<=W - at')
def zwf (W:Int) (l:List Bk) (at' n:Int):Bool:=ydk W at' n && !l.any (fun b=> meets b at' n)
def putB (l:List Bk) (at' n:Int):List Bk:=l.take (posB at' l) ++ ⟨at',n⟩::l.drop (posB at' l)
theorem ya9{W lo at' n:Int}{l:List Bk}(h:okK W lo l)(f:lo<=at')(j:1<=n)(m:at'+n<=W)(hc:∀ b ∈ l,¬ (b.a<at'+n/\at'<b.a+b.n)):okK W lo (putB l at' n):=by
 induction l generalizing lo with
 |nil=>exact⟨f,j,m⟩;|cons b l q=>
  have hb:=hc b (by simp);have r:=h.2.1;unfold putB;simp only[posB];split
  ·rename_i p;simp only[List.take_succ_cons,List.drop_succ_cons,List.cons_append];exact⟨h.1,h.2.1,q h.2.2 (by omega) (fun c i=>hc c (by simp[i]))⟩
  rename_i o;simp only[List.take_zero,List.drop_zero,List.nil_append];exact⟨f,j,⟨by show at'+n<=b.a;omega,h.2⟩⟩
def ya7 (l:List Bk) (at':Int):List Bk:=l.take (posB at' l) ++ l.drop (posB at' l + 1)
def zse (l:List Bk) (at':Int):List Bk:=if zd6 at' l then ya7 l at' else l
theorem okK.z7t{W lo:Int}{l:List Bk}(h:okK W lo l)(i:Nat):okK W lo (l.take i++l.drop (i+1)):=by
 induction l generalizing lo i with
 |nil=>simpa using h
 |cons b l f=>
  cases i with
  |zero=>simpa using h.2.2.mono (by have:=h.1;have:=h.2.1;omega)
  |succ i=>exact⟨h.1,h.2.1,f h.2.2 i⟩
theorem z7z{W at':Int}{l:List Bk}(h:okK W 0 l):okK W 0 (zse l at'):=by
 unfold zse;split
 ·exact h.z7t _
 exact h
theorem okK.len{W lo:Int}{l:List Bk}(h:okK W lo l):(l.length:Int)<=W-lo:=by
 induction l generalizing lo with
 |nil=>have:=h.le;simp;omega;|cons b l f=>have:=f h.2.2;have:=h.1;have:=h.2.1;simp only[List.length_cons];omega
end

section

attribute [local go_sem] zby

open Go.RowKit

def laid (cur:List Value) (off:Nat) (cs:List Value):List Value:=cur.take off ++ cs ++ cur.drop (off + cs.length)
section

attribute [local go_sem] zby

variable {P:Program} {w:World}

end

end

section

attribute [local go_sem] zby

open Go.RowKit

def Bk.cells (b:Bk):List Value:= [.int .i64 b.a,.int .i64 b.n]
def yhg (l:List Bk):List Value:=l.flatMap Bk.cells
theorem yhj(l k:List Bk):yhg (l++k)=yhg l++yhg k:=by simp[yhg]
theorem yh1(l:List Bk)(i j:Nat)(hi:i<l.length)(n:j<2):(yhg l)[i*2+j]?=(l[i].cells)[j]?:=by
 induction l generalizing i with
 |nil=>simp at hi
 |cons b l m=>
  show (b.cells++yhg l)[i*2+j]?=_
  have f:b.cells.length=2:=rfl
  cases i with
  |zero=>rw[List.getElem?_append_left (by omega)];simp
  |succ i=>
   rw[List.getElem?_append_right (by omega),f,show (i+1)*2+j-2=i*2+j from by omega]
   simpa using m i (by simpa using hi)
def RdK (w:World) (v:Value) (l:List Bk):Prop:=RdS w 2 v l.length (yhg l)
theorem RdK.nth{w:World}{v:Value}{l:List Bk}(r:RdK w v l):∃ ao cap,v= .slice ao l.length cap/\l.length<=cap/\(cap:Int)<=9223372036854775807/\(l≠ []->∃ b f,ao=some ⟨b,f,.none⟩/\b<w.heap.size/\
  ∀ i (hi:i<l.length),w.cell? ⟨b,f+i*2,.none⟩=some (.int .i64 l[i].a)/\w.cell? ⟨b,f+i*2+1,.none⟩=some (.int .i64 l[i].n)):=by
 obtain⟨ao,cap,e,o,p,_,q⟩:=r;refine⟨ao,cap,e,o,p,fun t=>?_⟩;obtain⟨b,f,m,j,hc⟩:=q (fun h=>t (List.eq_nil_of_length_eq_zero h));refine⟨b,f,m,j,fun i hi=>⟨?_,?_⟩⟩
 ·have:=hc (i*2) (by omega);rw[this,show i*2=i*2+0 from rfl,yh1 l i 0 hi (by omega)];rfl
 have:=hc (i*2+1) (by omega);rw[Nat.add_assoc,this,yh1 l i 1 hi (by omega)];rfl
structure Mdl (T E:TypeId) (B:Nat) (w:World) (s:Nat) (sl:Value) (W:Int) (l:List Bk):Prop where
 lies:B<=s
 head:w.heap[s]?=some (.cells #[sl,W] T (0,0))
 owns:w.ownsRow B E 2 sl l.length (yhg l)
 apart:sl.ownBlock≠some s
 ok:okK W 0 l
 small:W<=4096
section

attribute [local go_sem] zby

variable {T E:TypeId} {B:Nat} {w w':World} {s:Nat} {sl:Value} {W:Int} {l:List Bk}

theorem Mdl.lt(h:Mdl T E B w s sl W l):s<w.heap.size:=(Array.getElem?_eq_some_iff.1 h.head).1
theorem Mdl.zem(h:Mdl T E B w s sl W l):∀ k,sl.ownBlock=some k->B<=k/\k<w.heap.size:=h.owns.lt
theorem Mdl.cell0(h:Mdl T E B w s sl W l):w.cell? ⟨s,0,.none⟩=some sl:=by simpa using cell_of_row w s 0 _ T (0,0) h.head
theorem Mdl.cell1(h:Mdl T E B w s sl W l):w.cell? ⟨s,1,.none⟩=some (.int .i64 W):=by simpa using cell_of_row w s 1 _ T (0,0) h.head
theorem Mdl.free(h:Mdl T E B w s sl W l)(i:Nat):w.frozen? ⟨s,i,.none⟩=false:=zax h.head i
theorem Mdl.rd(h:Mdl T E B w s sl W l):RdK w sl l:=RdS.zew h.owns
theorem Mdl.blocks(h:Mdl T E B w s sl W l)(hb:∀ k,foot s sl k->w'.heap[k]?=w.heap[k]?):Mdl T E B w' s sl W l:=
 ⟨h.lies,by rw[hb s (.inl rfl)];exact h.head,zas h.owns (fun k b=>hb k (.inr b)),h.apart,h.ok,h.small⟩
theorem Mdl.below(h:Mdl T E B w s sl W l)(hb:Below w.heap.size w w'):Mdl T E B w' s sl W l:=
 h.blocks fun k b=>hb.block k (by rcases b with rfl|b;exact h.lt;exact(h.zem k b).2)
theorem Mdl.only{F:Nat->Prop}(h:Mdl T E B w s sl W l)(i:Only F w w')(f:∀ k,foot s sl k->¬ F k):Mdl T E B w' s sl W l:=
 h.blocks fun k b=>i.block k (by rcases b with rfl|b;exact h.lt;exact(h.zem k b).2) (f k b)
theorem Mdl.len(h:Mdl T E B w s sl W l):l.length<=4096:=by have:=h.ok.len;have:=h.small;omega
end

abbrev PM:=Mdl 254 199
end

end Go.Proofs.YtkbddndcegpllaaGreat
