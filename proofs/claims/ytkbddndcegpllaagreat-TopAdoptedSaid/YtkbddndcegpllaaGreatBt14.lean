/- Texts bound together: RunW RunT. -/
import Derived.Test.YtkbddndcegpllaaGreatBt13

set_option linter.all false
set_option maxHeartbeats 2000000
set_option maxRecDepth 100000
namespace Go.Proofs.YtkbddndcegpllaaGreat

attribute [local go_sem] zc9

open Go.RowKit

attribute [local go_sem ↓] Go.wp_at_zero Go.wp_at_succ

def zbz (o:Option Sp) (q:Nat):Value:=match o with
 | none=> .pointer none
 | some _=> .pointer (some ⟨q,0,.none⟩)
def za3 (s:Sh) (t:Rn) (sv:Value):Array Value:= #[s.p,s.c,s.m,t.c,t.pages,t.head,t.at',t.i,t.next,sv,t.found,t.done]
attribute [local go_sem] za3

structure RnAt (w:World) (q q2:Nat) (s:Sh) (t:Rn):Prop where
 row:zaa w q (za3 s t (zbz t.strip q2)) 297
 inn:∀ x,t.strip=some x->zaa w q2 (zc9 s x) 329/\q≠q2
theorem z07(s:Sh)(c n:Int)(w:World):
  Calls Tryz.prog 173 #[.agg #[s.p,s.c,s.m],c,n] w fun e w'=>Born w w' e (za3 s (zf8 s c n) (.pointer none)) 297:=by
 have z:=fun W=>zau s.p s.c s.m c W;have F:za3 s (zf8 s c n) (.pointer none)= #[.int .i64 s.p,.int .i64 s.c,.int .i64 s.m,.int .i64 c,.int .i64 n,.int .i64 0,.int .i64 0,.int .i64 0,.int .i64 0,.pointer none,.bool false,.bool (!(decide (0<=zae s.p s.c s.m c)&&decide (1<=n)&&decide (n<=8)&&decide (n<=s.p)))]:=rfl;rw[F];clear F;generalize zae s.p s.c s.m c=y at *;obtain⟨sp,B,C⟩:=s;dsimp only at z ⊢;replace z:=hd' z;have E:(y<0)\/(0<=y/\n<1)\/(0<=y/\1<=n/\8<n)\/(0<=y/\1<=n/\n<=8/\sp<n)\/(0<=y/\1<=n/\n<=8/\n<=sp):=by omega
 have i:=(Below.refl w.heap.size w).alloc lr (.cells #[sp,B,C] 23);have t0:=heap_alloc_new w (.cells #[sp,B,C] 23);go_in;go_upto_region 1 with fail;generalize w.alloc (.cells #[sp,B,C] 23)=W at *;obtain⟨H,I,q⟩:=hidv w.heap.size;rw[<-q]at t0 ⊢;have J:H<W.heap.size:=(Array.getElem?_eq_some_iff.1 t0).1;have c0:W.cell? ⟨H,0,.none⟩=some (.int .i64 sp):=zac t0 0;have c1:W.cell? ⟨H,1,.none⟩=some (.int .i64 B):=zac t0 1;have c2:W.cell? ⟨H,2,.none⟩=some (.int .i64 C):=zac t0 2;clear q t0;rcases E with j|⟨j,l⟩|⟨j,l,o⟩|⟨j,l,o,D⟩|⟨j,l,o,D⟩;all_goals go_wp2_with (first|(go_at_call 57;(with_reducible refine(z.out _).mono ?_);rintro r L ⟨rfl,b⟩;have G:=zai b _ _ _ c0;have d1:=zai b _ _ _ c1;have d2:=zai b _ _ _ c2));go_returns
 ·exact za6 i b (by simp[Int.not_le.2 j])
 ·exact za6 i b (by simp[j,Int.not_le.2 l])
 ·exact za6 i b (by simp[j,l,Int.not_le.2 o])
 ·exact za6 i b (by simp[j,l,o,Int.not_le.2 D])
 exact za6 i b (by simp[j,l,o,D])
theorem zy1(q:Nat)(cs:Array Value)(v:Bool)(w:World)(h:zaa w q cs 297)(b:cs[11]?=some (.bool v)):Calls Tryz.prog 206 #[some q] w fun e w'=>e= .returned (.bool v)/\w'=w:=by
 have c:=(h.cell 11).trans b;clear h b;go_in;go_wp2_with fail;go_returns;exact⟨rfl,rfl⟩
theorem zvi(q:Nat)(s:Sh)(t:Rn)(sv:Value)(w:World)(j:zaa w q (za3 s t sv) 297):
  Calls Tryz.prog 204 #[some q] w fun e w'=>e= .returned (.tuple #[.int .i64 (if t.found=true then t.head else 0),t.found])/\w'=w:=by
 obtain⟨y,C,z,r,B,D,i,b,l⟩:=t;obtain⟨sp,o,p⟩:=s;have n:=j.lt;have m:=j.cell;clear j;dsimp only;cases b;all_goals go_in;go_wp2_with fail;go_returns;exact⟨rfl,rfl⟩
theorem znf(w:World):Calls Tryz.prog 204 #[.pointer none] w fun e w'=>e= .returned (.tuple #[.int .i64 0,.bool false])/\w'=w:=by
 go_in;go_wp2_with fail;go_returns;exact⟨rfl,rfl⟩
theorem zpd(p:Nat)(w:World):
  Calls Tryz.prog 256 #[.pointer none,some p] w fun e w'=>e= .returned (.tuple #[])/\w'=w:=by
 go_in;go_wp2_with fail;go_returns;exact⟨rfl,rfl⟩
theorem zj5(q:Nat)(s:Sh)(t:Rn)(sv:Value)(w:World)(H:zaa w q (za3 s t sv) 297)(E:0<=t.i/\t.i<80)(F:0<=t.head/\t.head<=64)(G:0<=t.pages/\t.pages<=8):
  Calls Tryz.prog 268 #[some q] w fun e w'=>Turned q w w' e (za3 s t.written sv) 297:=by
 have n:=At1.start H;clear H;unfold Rn.written;have b:t.i+1=t.head+t.pages\/(¬ t.i+1=t.head+t.pages/\(t.i+1==t.head+t.pages)=false):=by
  by_cases h:t.i+1=t.head+t.pages
  ·exact .inl h
  exact .inr ⟨h,by simpa using h⟩
 obtain⟨C,j,l⟩:∃ C:Rn,Hid (C=if t.i+1=t.head+t.pages then {t with i:=t.i+1,found:=true,done:=true} else {t with i:=t.i+1})/\C=_:=⟨_,hd' rfl,rfl⟩;rw[<-l];clear l;obtain⟨sp,V,X⟩:=s;obtain⟨Z,J,I,Y,r,tx,y,p,D⟩:=t;dsimp only at E F G b j;obtain⟨O,R⟩:=E;obtain⟨f1,f2⟩:=F;obtain⟨n1,n2⟩:=G;have z:=n.cell;have L:=n.free;have w1:=wrp (r+1);have w2:=wrp (I+J);go_in;go_upto_region 1 with fail;have B:=n.set 7 (.int .i64 (r+1));generalize World.setCell _ ⟨q,7,.none⟩ (.int .i64 (r+1))=U at *;clear z n L;have M:=B.cell;have S:=B.lt;go_quiet (fail);have o:=B.drewN nq;generalize U.drewN nq=T at *;have N:=o.cell;have L:=o.free;rcases b with b|⟨m,b⟩
 ·replace j:=hd' (j.out.trans (if_pos b));have hb:(r+1==I+J)=true:=by simpa using b
  clear b;go_wp2_with fail;go_returns;exact((o.set 10 _).set 11 _).fin (by rw[j.out];rfl)
 replace j:=hd' (j.out.trans (if_neg m));clear m;go_wp2_with fail;go_returns;exact o.fin (by rw[j.out];rfl)
theorem zrz(q:Nat)(s:Sh)(t:Rn)(sv:Value)(w:World)(N:zaa w q (za3 s t sv) 297)(J:0<=t.at'/\t.at'<80)(C:0<=t.head/\t.head<=64)(D:0<=t.pages/\t.pages<=8):
  Calls Tryz.prog 262 #[some q] w fun e w'=>Turned q w w' e (za3 s t.own sv) 297:=by
 have o:=At1.start N;clear N;unfold Rn.own;have l:=fun Y (X:zaa Y q (za3 s {t with at':=t.at'+1,next:=5,i:=t.head} sv) 297)=>zj5 q s {t with at':=t.at'+1,next:=5,i:=t.head} sv Y X (by dsimp only;omega) C D;have b:t.at'+1=t.head+t.pages\/(¬ t.at'+1=t.head+t.pages/\(t.at'+1==t.head+t.pages)=false):=by
  by_cases h:t.at'+1=t.head+t.pages
  ·exact .inl h
  exact .inr ⟨h,by simpa using h⟩
 obtain⟨F,j,m⟩:∃ F:Rn,Hid (F=if t.at'+1=t.head+t.pages then({t with at':=t.at'+1,next:=5,i:=t.head}:Rn).written else {t with at':=t.at'+1,next:=0})/\F=_:=⟨_,hd' rfl,rfl⟩;rw[<-m];clear m;obtain⟨sp,sc,sm⟩:=s;obtain⟨tc,O,I,G,ti,tx,z,y,H⟩:=t;dsimp only at J C D b j l;obtain⟨i1,i2⟩:=J;obtain⟨f1,f2⟩:=C;obtain⟨n1,n2⟩:=D;replace l:=hd' l;have B:=o.cell;have R:=o.free;have Z:=wrp (G+1);have w2:=wrp (I+O);go_in;go_upto_region 2 with fail;have E:=(o.set 6 (.int .i64 (G+1))).set 8 (.int .i64 0);generalize World.setCell _ ⟨q,8,.none⟩ (.int .i64 0)=U at *;clear B o R;have S:=E.cell;have lU:=E.lt;go_quiet (fail);have p:=E.drewN nq;generalize U.drewN nq=T at *;have V:=p.cell;have R:=p.free;rcases b with b|⟨n,b⟩
 ·replace j:=hd' (j.out.trans (if_pos b));have hb:(G+1==I+O)=true:=by simpa using b
  clear b;have L:=(p.set 8 (.int .i64 5)).set 7 (.int .i64 I);go_wp2_with (go_at_call 268;(with_reducible refine(l.out _ (L.row.cast rfl)).mono ?_);rintro r Z M;obtain rfl:=M.ret);go_returns;exact(L.turned M).fin (by rw[j.out])
 replace j:=hd' (j.out.trans (if_neg n));clear n;go_wp2_with fail;go_returns;exact p.fin (by rw[j.out];rfl)
theorem zon(q:Nat)(s:Sh)(t:Rn)(sv:Value)(w:World)(N:zaa w q (za3 s t sv) 297)(I:0<=t.at'/\t.at'<80)(J:0<=s.p/\s.p<=64)(L:0<=t.pages/\t.pages<=8):
  Calls Tryz.prog 267 #[some q] w fun e w'=>Turned q w w' e (za3 s (t.gone s) sv) 297:=by
 have m:=At1.start N;clear N;unfold Rn.gone;obtain⟨E,b,j⟩:∃ E:Rn,Hid (E=if t.head<t.i then t else {t with at':=t.at'+1,head:=t.at'+1,next:=0,done:=decide (s.p-t.pages<t.at'+1)})/\E=_:=⟨_,hd' rfl,rfl⟩;rw[<-j];clear j;obtain⟨sp,sc,sm⟩:=s;obtain⟨tc,Z,O,F,R,tx,r,o,G⟩:=t;dsimp only at I J L b;obtain⟨i1,i2⟩:=I;obtain⟨f1,f2⟩:=J;obtain⟨n1,n2⟩:=L;have z:=m.cell;have y:=m.free;have Y:=m.lt;have w1:=wrp (F+1);have w2:=wrp (sp-Z);go_in;go_wp2_with fail;go_quiet (fail);have n:=m.drewN nq;clear z m y Y;generalize w.drewN nq=T at *;have B:=n.cell;have y:=n.free;by_cases l:O<R
 ·replace b:=hd' (b.out.trans (if_pos l));go_wp2_with fail;go_returns;exact n.fin (by rw[b.out])
 replace b:=hd' (b.out.trans (if_neg l));have M:decide (O<R)=false:=decide_eq_false l;go_upto_region 3 with fail;have C:=((n.set 6 (.int .i64 (F+1))).set 5 (.int .i64 (F+1))).set 8 (.int .i64 0);generalize World.setCell _ ⟨q,8,.none⟩ (.int .i64 0)=U at *;clear B n y;have S:=C.cell;have lU:=C.lt;refine zad 18 (by kernel_rfl) (by kernel_rfl) ?_;dsimp only[List.take,List.drop];repeat (go_big_quiet_step (fail))
 refine wpQuiet_nil ?_;rintro _ ⟨H,rfl⟩;have D:=C.below H.below;generalize H.w=V at *;change wpList _ _ _ _ _ V;have X:=D.cell;have y:=D.free;go_wp2_with fail;go_returns;exact(D.set 11 _).fin (by rw[b.out];rfl)
theorem zkl(q:Nat)(s:Sh)(t:Rn)(sv:Value)(w:World)(D:zaa w q (za3 s t sv) 297)(o:0<=t.at'/\t.at'<80)(y:0<=s.p/\s.p<=64)(z:0<=t.pages/\t.pages<=8):
  Calls Tryz.prog 263 #[some q] w fun e w'=>Turned q w w' e (za3 s (t.miss s) sv) 297:=by
 have m:=At1.start D;clear D;unfold Rn.miss;have b:=fun Y (F:zaa Y q (za3 s {t with next:=4,i:=t.at'} sv) 297)=>zon q s {t with next:=4,i:=t.at'} sv Y F o y z;generalize ({t with next:=4,i:=t.at'}:Rn).gone s=J at *;obtain⟨sp,H,I⟩:=s;obtain⟨L,O,M,G,N,R,l,j,n⟩:=t;dsimp only at b;replace b:=hd' b;clear o y z;have E:=m.cell;have T:=m.free;have B:=(m.set 8 (.int .i64 4)).set 7 (.int .i64 G);go_in;go_wp2_with (go_at_call 267;(with_reducible refine(b.out _ (B.row.cast rfl)).mono ?_);rintro r S C;obtain rfl:=C.ret);go_returns;exact(B.turned C).fin rfl
theorem zrp(q p b:Nat)(s:Sh)(t:Rn)(sv:Value)(pg k a c:Int)(m:Mem)(M w:World)(R:At3 q p b M w (za3 s t sv) 297 m)(L:Fits s m)(n:0<=pg/\pg<s.p)(hs:m.st<1000000000):
  Calls Tryz.prog 266 #[some q,some p,pg,.agg #[k,a,c]] w fun e w'=>e= .returned (.tuple #[])/\At3 q p b M w' (za3 s t sv) 297 (m.store t.c (s.c+pg) (zb8 k a c)):=by
 obtain⟨y,o⟩:=L.page n;have i:=fun Y=>planPage_any s.p s.c s.m pg Y;rw[y]at i;have j:=fun Y=>zcd k a c Y;have l:=fun Y (S:zaq Y p b m)=>zba p b m t.c (s.c+pg) (zb8 k a c) Y S o (zc0 _ _ _) hs;generalize s.c+pg=pa at *;generalize zb8 k a c=V at *;clear y o L n;obtain⟨sp,sc,sm⟩:=s;obtain⟨tc,tn,th,ta,ti,tx,B,z,G⟩:=t;dsimp only at i l ⊢;replace i:=hd' i;replace j:=hd' j;replace l:=hd' l;go_in;go_upto_region 1 with fail;have C:=R.alloc (.cells #[k,a,c] 128);have I:zaa (w.alloc (.cells #[k,a,c] 128)) w.heap.size #[k,a,c] 128:=heap_alloc_new _ _;generalize w.alloc (.cells #[k,a,c] 128)=X at *;have U:=C.lt;generalize w.heap.size=E at *;have T:=I.lt;have N:=I.cell;have O:=C.cell;refine zad 13 (by kernel_rfl) (by kernel_rfl) ?_;dsimp only[List.take,List.drop];repeat (go_big_quiet_step ((first|(go_at_call 119;exact zam (i.out _))|(go_at_call 154;exact zam (j.out _)))))
 refine wpQuiet_nil ?_;rintro _ ⟨H,rfl⟩;have J:=C.below H.below;generalize H.w=Z at *;change wpList _ _ _ _ _ Z;go_wp2_with (go_at_call 257;(with_reducible refine(l.out _ J.wds).mono ?_);rintro r w2 ⟨rfl,F,D⟩);go_returns;exact⟨rfl,J.access F D⟩
structure zbu (q q2 p b:Nat) (has:Bool) (w w':World) (e:Ending) (s:Sh) (t:Rn) (m:Mem):Prop where
 ret:e= .returned (.tuple #[])
 at':∃ q3,RnAt w' q q3 s t/\(q3=q2/\(has=false->t.strip=none)\/w.heap.size<=q3)
 wds:zaq w' p b m
 only:Only (fun k=> k=q\/(has=true/\k=q2)\/k=p\/k=b) w w'
theorem zbu.zoq{q q2 p b:Nat}{w w':World}{s:Sh}{t t':Rn}{m:Mem}(h:RnAt w q q2 s t)(y:t.strip≠none->q2≠p/\q2≠b)(i:At3 q p b w w' (za3 s t' (zbz t'.strip q2)) 297 m)(o:t'.strip=t.strip):zbu q q2 p b t.strip.isSome w w' (.returned (.tuple #[])) s t' m:=by
 refine⟨rfl,⟨q2,⟨i.row,fun x j=>?_⟩,.inl ⟨rfl,fun e=>?_⟩⟩,i.wds,i.only.weak fun k f=>?_⟩
 ·rw[o]at j;obtain⟨r,l⟩:=h.inn x j;have n:=y (by rw[j];exact fun e=>by cases e);exact⟨r.only i.only (by rintro(e|e|e);exact l e.symm;exact n.1 e;exact n.2 e),l⟩
 ·rw[o];rcases hq:t.strip with _|x
  ·rfl
  rw[hq]at e;cases e
 rcases f with f|f|f
 ·exact .inl f
 ·exact .inr (.inr (.inl f))
 exact .inr (.inr (.inr f))
def znx (s:Sh) (t:Rn) (m:Mem):Rn:=
 let pg:=zak s.p s.c s.m t.at'
 if zal s.p s.c s.m t.at' (m.get pg)=true/\zbx (m.get pg)=0 then { t with next:=1 }
 else if zal s.p s.c s.m t.at' (m.get pg)=true/\zbx (m.get pg)=2 then { t with next:=2,strip:=some (zfa s t.c t.at' (za2 (m.get pg) 0)) }
 else t.miss s
theorem zxl(q q2 p b:Nat)(s:Sh)(t:Rn)(m:Mem)(w:World)(h:RnAt w q q2 s t)(hw:zaq w p b m)(bm:q≠p)(bk:q≠b)(b4:t.strip≠none->q2≠p/\q2≠b)(hf:Fits s m)(hs:m.st<1000000000)
  (ha:0<=t.at'/\t.at'<s.p) (b9:0<=t.pages/\t.pages<=8):
  Calls Tryz.prog 260 #[some q,some p] w fun e w'=>zbu q q2 p b t.strip.isSome w w' e s (znx s t m) (m.load t.c (s.c+t.at')):=by
 have bg:=hf.bd;have h0:At3 q p b w w (za3 s t (zbz t.strip q2)) 297 m:=At3.start h.row hw bm bk;obtain⟨b5,ba⟩:=hf.page ha;have D:=fun Y=>planPage_any s.p s.c s.m t.at' Y;rw[b5]at D;have N:=fun Y (hY:zaq Y p b m)=>zc1 p b m t.c (s.c+t.at') Y hY ba hs;have R:=fun Y=>zh3 s t.at' (m.get (s.c+t.at')) Y (Mem.ze4 hw.fit _);have J:=fun Y (hY:zaa Y q (za3 s t (zbz t.strip q2)) 297)=>zkl q s t (zbz t.strip q2) Y hY (by omega) (by omega) b9;have G:=fun k Y=>zs8 s t.c t.at' k Y;have hr:znx s t m=if zal s.p s.c s.m t.at' (m.get (s.c+t.at'))=true/\pgK s t.at' (m.get (s.c+t.at'))=0 then {t with next:=1} else if zal s.p s.c s.m t.at' (m.get (s.c+t.at'))=true/\pgK s t.at' (m.get (s.c+t.at'))=2 then {t with next:=2,strip:=some (zfa s t.c t.at' (pgP s t.at' (m.get (s.c+t.at')) 0))} else t.miss s:=by unfold znx pgK pgP;rw[b5];by_cases H:zal s.p s.c s.m t.at' (m.get (s.c+t.at'))=true<;>simp[H]
 obtain⟨t2,L,X⟩:∃ t2:Rn,Hid (t2=znx s t m)/\t2=znx s t m:=⟨_,hd' rfl,rfl⟩;rw[<-X];clear X;replace L:=hd' (L.out.trans hr);clear hr;generalize s.c+t.at'=pa at *;generalize m.get pa=x at *;generalize zal s.p s.c s.m t.at' x=B at *;generalize pgK s t.at' x=S at *;generalize pgP s t.at' x 0=Z at *;generalize pgP s t.at' x 1=e2 at *;replace G:=fun Y=>G Z Y;generalize bi:zfa s t.c t.at' Z=nb at *;have y:(t.miss s).strip=t.strip:=by unfold Rn.miss Rn.gone;split<;>rfl
 have l:Hid (∀ Y,B=true/\S=0->At3 q p b w Y (za3 s {t with next:=1} (zbz t.strip q2)) 297 (m.load t.c pa)->zbu q q2 p b t.strip.isSome w Y (.returned (.tuple #[])) s t2 (m.load t.c pa)):=hd' fun Y H F=>by rw[L.out.trans (if_pos H)];exact zbu.zoq h b4 F rfl
 have n:Hid (∀ Y q3,B=true/\S=2->w.heap.size<=q3->zaa Y q3 (zc9 s nb) 329->At3 q p b w Y (za3 s {t with next:=2,strip:=some nb} (.pointer (some ⟨q3,0,.none⟩))) 297 (m.load t.c pa)->zbu q q2 p b t.strip.isSome w Y (.returned (.tuple #[])) s t2 (m.load t.c pa)):=hd' fun Y q3 H V bc F=>by
  have e:=L.out.trans (if_neg (fun h=>by have:=H.2;have:=h.2;omega)) |>.trans (if_pos H);rw[e];refine⟨rfl,⟨q3,⟨F.row,fun z hz=>?_⟩,.inr V⟩,F.wds,F.only.weak fun k T=>?_⟩
  ·simp only[Option.some.injEq]at hz;subst hz;exact⟨bc,by have:=h0.ls;omega⟩
  rcases T with T|T|T
  ·exact .inl T
  ·exact .inr (.inr (.inl T))
  exact .inr (.inr (.inr T))
 have o:Hid (∀ Y,¬ (B=true/\S=0)->¬ (B=true/\S=2)->At3 q p b w Y (za3 s (t.miss s) (zbz t.strip q2)) 297 (m.load t.c pa)->zbu q q2 p b t.strip.isSome w Y (.returned (.tuple #[])) s t2 (m.load t.c pa)):=hd' fun Y H I F=>by rw[L.out.trans (if_neg H) |>.trans (if_neg I)];exact zbu.zoq h b4 (by rw[y];exact F) y
 clear L bi b5 ba bg hf h hw b4 ha b9 y;generalize t.miss s=tM at *;generalize zbz t.strip q2=sv at *;generalize t.strip.isSome=has at *;generalize zc9 s nb=bu at *;obtain⟨sp,sc,sm⟩:=s;obtain⟨U,tn,th,ta,ti,tx,j,i,C⟩:=t;dsimp only at N R D J G l n o ⊢;replace N:=hd' N;replace R:=hd' R;replace D:=hd' D;replace J:=hd' J;replace G:=hd' G;have lq:=h0.lt;have bf:=h0.cell;go_in;go_upto_region 0 with fail;go_cut [4,5] (fun s4 s5 wx=>∃ E,s4= .pointer (some ⟨E,0,.none⟩)/\s5= .bool B/\w.heap.size<=E/\zaa wx E #[S,Z,e2] 128/\At3 q p b w wx (za3 ⟨sp,sc,sm⟩ ⟨U,tn,th,ta,ti,tx,j,i,C⟩ sv) 297 (m.load U pa));case first=>
  refine zcl (x:=⟨27,28,25,4,31,128, #[.int .i64 0,.int .i64 0,.int .i64 0], #[S,Z,e2]⟩) (ld:=22) (v:= .int .u64 x) (ts:= [15,19,28])
   (K0:=fun Y=>At3 q p b w Y (za3 ⟨sp,sc,sm⟩ ⟨U,tn,th,ta,ti,tx,j,i,C⟩ sv) 297 m) (K1:=fun Y=>At3 q p b w Y (za3 ⟨sp,sc,sm⟩ ⟨U,tn,th,ta,ti,tx,j,i,C⟩ sv) 297 (m.load U pa))
   (by kernel_rfl) (by simp only[zfq,zej,nopO,nopC,Nat.reduceBEq,Bool.or_false,Bool.or_true,Bool.false_eq_true,↓reduceIte,Nat.reduceAdd];exact rfl) (by kernel_rfl) (by kernel_rfl) (by kernel_rfl) (by dsimp only;decide) (by dsimp only;simp) (by dsimp only;decide) (by dsimp only;simp) (by kernel_rfl) (by dsimp only;decide) (by simp)
   ⟨⟨fun Y Y' h1 h2 V=>h1.far h2 V h0.only.size⟩,⟨fun Y Y' h1 h2 V=>h1.far h2 V h0.only.size⟩⟩ h0.drew ?_
  apply Exists.intro;refine⟨fun B hb hs=>?_,fun _=>?_,?_,?_⟩;case refine_1=>
   have bb:zaa B q (za3 ⟨sp,sc,sm⟩ ⟨U,tn,th,ta,ti,tx,j,i,C⟩ sv) 297:=hb.elim (fun h=>h.row) (fun h=>h.row);have lB:=bb.lt;have bq:=bb.cell;repeat (go_big_quiet_step ((first|(go_at_call 119;exact zam (D.out _))|(go_at_call 118;exact zam (R.out _)))))
   exact wpQuiet_nil rfl
  case refine_2=>exact zqa rfl rfl rfl rfl rfl rfl rfl rfl (by dsimp only;decide +kernel) (by dsimp only;decide +kernel)
  case refine_3=>exact zcz rfl (fun _ _=>by simp[go_sem]) fun Y b3 hs=>(N.out Y b3.wds).mono fun r Y' ⟨h1,h2,V⟩=>⟨h1,b3.load h2 V,V.weak fun k T=>T ▸ b3.ls.2.1⟩
  case refine_4=>intro a w4 M hf;obtain⟨rfl,bn,bh,O⟩:=hf;obtain⟨hM,O⟩:=O (by simp);simp only[Act.put,vput,vptr];go_wp2;go_meet;exact⟨_,rfl,rfl,hM,O,bh⟩
 case rest=>
  obtain⟨E,rfl,rfl,hE,b2,F⟩:=hcut;have b1:E≠q:=fun e=>by rw[e]at hE;omega
  have bs:=b2.cell;clear h0 bf N R D;have z8:=ci tx (F.cell 8);have zf:=F.free;by_cases H:B=true/\S=0
  ·replace l:=hd' (fun Y=>l.out Y H);obtain⟨rfl,rfl⟩:=H;clear n o J G;go_wp2_with fail;go_returns;exact l.out _ (F.set 8 _)
  by_cases I:B=true/\S=2
  ·replace n:=hd' (fun Y q3=>n.out Y q3 I);obtain⟨rfl,rfl⟩:=I;clear l o J H z8 zf;go_upto_region 5 with fail;have hS:=hd' (fun (Y:World) (nx:Int) (v:Value) (h:zaa Y q (za3 ⟨sp,sc,sm⟩ ⟨U,tn,th,ta,ti,nx,j,i,C⟩ v) 297) (h2:zaa Y E #[.int .i64 2,Z,e2] 128)=>(⟨h.cell 0,h.cell 1,h.cell 2,h.cell 3,h.cell 6,h2.cell 1⟩:Y.cell? ⟨q,0,.none⟩=some (.int .i64 sp)/\Y.cell? ⟨q,1,.none⟩=some (.int .i64 sc)/\Y.cell? ⟨q,2,.none⟩=some (.int .i64 sm)/\Y.cell? ⟨q,3,.none⟩=some (.int .i64 U)/\Y.cell? ⟨q,6,.none⟩=some (.int .i64 ta)/\Y.cell? ⟨E,1,.none⟩=some (.int .i64 Z)))
   go_region_held3 (fun Y=>Y.cell? ⟨q,0,.none⟩=some (.int .i64 sp)/\Y.cell? ⟨q,1,.none⟩=some (.int .i64 sc)/\Y.cell? ⟨q,2,.none⟩=some (.int .i64 sm)/\Y.cell? ⟨q,3,.none⟩=some (.int .i64 U)/\Y.cell? ⟨q,6,.none⟩=some (.int .i64 ta)/\Y.cell? ⟨E,1,.none⟩=some (.int .i64 Z))
    (first|exact hS.out _ _ _ F.row.drew b2.drew|exact hS.out _ _ _ hC.row b0|exact hS.out _ 2 _ ((hC.set 8 _).row.cast rfl) (b0.other b1 _ _)|exact hS.out _ 2 _ (((hC.set 8 _).set 9 _).row.cast rfl) ((b0.other b1 _ _).other b1 _ _))
    (first|(go_at_call 259;(with_reducible refine(G.out _).mono ?_);rintro r w6 ⟨q3,rfl,bj,b6,b7⟩;have hC:=F.drew.below b7;have b0:=b2.drew.below b7;have z8:=hC.cell 8;have z9:=hC.cell 9;have zf:=hC.free))
   go_wp2_with fail;go_returns;exact n.out _ q3 (Nat.le_trans F.only.size bj) ((b6.other (by have:=F.lt;have hd:wc.drew.heap.size=wc.heap.size:=rfl;omega) _ _).other (by have:=F.lt;have hd:wc.drew.heap.size=wc.heap.size:=rfl;omega) _ _) ((hC.set 8 _).set 9 _)
  replace o:=hd' (fun Y=>o.out Y H I);have b8:B=false\/(B=true/\(S==0)=false/\(S==2)=false):=by
   rcases Bool.eq_false_or_eq_true B with h|h
   ·exact .inr ⟨h,by simpa[h] using H,by simpa[h] using I⟩
   exact .inl h
  clear H I n l G z8 zf;rcases b8 with rfl|⟨rfl,b8,bp⟩;all_goals go_wp2_with (go_at_call 263;(with_reducible refine(J.out _ F.row).mono ?_);rintro r w1 hT;obtain rfl:=hT.ret);go_returns;exact o.out _ (F.turned hT)
theorem isSome_none{b:Type}{o:Option b}(h:o.isSome=false):o=none:=by cases o<;>simp_all
theorem zuh(q q2 p b:Nat)(s:Sh)(t:Rn)(m:Mem)(w:World)(h:RnAt w q q2 s t)(l:zaq w p b m)(hd:t.done=true):
  Calls Tryz.prog 256 #[some q,some p] w fun e w'=>zbu q q2 p b t.strip.isSome w w' e s (zcr s t m).1 (zcr s t m).2:=by
 have j:zcr s t m=(t,m):=by unfold zcr;rw[if_pos hd]
 rw[j];dsimp only;have n:w.cell? ⟨q,11,.none⟩=some (.bool true):=by rw[<-hd];exact h.row.cell 11
 have i:zbu q q2 p b t.strip.isSome w w (.returned (.tuple #[])) s t m:=⟨rfl,⟨q2,h,.inl ⟨rfl,isSome_none⟩⟩,l,Only.refl _ _⟩;replace i:=hd' i;clear h l hd j;go_in;go_wp2_with fail;go_returns;exact i.out
theorem zyl(q q2 p b:Nat)(s:Sh)(t:Rn)(m:Mem)(w:World)(h:RnAt w q q2 s t)(hw:zaq w p b m)(bu:q≠p)(bs:q≠b)(bq:t.strip≠none->q2≠p/\q2≠b)(hf:Fits s m)(ho:rnOk s t)(hs:m.st<1000000000):
  Calls Tryz.prog 256 #[some q,some p] w fun e w'=>zbu q q2 p b t.strip.isSome w w' e s (zcr s t m).1 (zcr s t m).2:=by
 rcases Bool.eq_false_or_eq_true t.done with hd|hd
 ·exact zuh q q2 p b s t m w h hw hd
 obtain⟨c1,c2,c3,c4,c5,I,c7,c8,c9,U⟩:=ho.cl hd;have bf:=hf.bd;have E:At3 q p b w w (za3 s t (zbz t.strip q2)) 297 m:=At3.start h.row hw bu bs;have C:Hid (∀ Y (t':Rn) m',t'.strip=t.strip->At3 q p b w Y (za3 s t' (zbz t.strip q2)) 297 m'->zbu q q2 p b t.strip.isSome w Y (.returned (.tuple #[])) s t' m'):=hd' fun Y t' m' e l=>zbu.zoq h bq (by rw[e];exact l) e;obtain⟨r,B⟩:∃ r,r=zcr s t m:=⟨_,rfl⟩;rw[<-B];unfold zcr at B;rw[if_neg (by rw[hd];decide)]at B;dsimp only at B;by_cases n0:t.next=0
 ·rw[if_pos n0]at B;have D:r=(znx s t m,m.load t.c (s.c+t.at')):=by rw[B,<- (hf.page (x:=t.at') (by have:=I (by omega);omega)).1];rfl
  subst D;dsimp only;have ck:=hd' (zxl q q2 p b s t m w h hw bu bs bq hf hs (by have:=I (by omega);omega) (by omega));have b3:w.cell? ⟨q,11,.none⟩=some (.bool false):=by rw[<-hd];exact h.row.cell 11
  have c8:w.cell? ⟨q,8,.none⟩=some (.int .i64 0):=by rw[<-n0];exact h.row.cell 8
  generalize znx s t m=t2 at *;clear B C E bf c1 c2 c3 c4 c5 I c7 c9 U ho hf h hw n0 hd;go_in;go_wp2_with (go_at_call 260;(with_reducible refine ck.out.mono ?_);rintro r w1 hS;obtain rfl:=hS.ret);go_returns;exact hS
 rw[if_neg n0]at B;have n:(t.miss s).strip=t.strip:=by unfold Rn.miss Rn.gone;split<;>rfl
 have o:t.own.strip=t.strip:=by unfold Rn.own Rn.written;split<;>(try split)<;>rfl
 by_cases n1:t.next=1
 ·rw[if_pos n1]at B;have I:=I (by omega);obtain⟨b1,bh⟩:=hf.page (x:=t.at') (by omega);have V:=fun Y=>planPage_any s.p s.c s.m t.at' Y;rw[b1]at V B;have ba:=fun Y=>zcd 1 t.c 0 Y;have cc:Hid (zf4 t.c=zb8 1 t.c 0):=hd' rfl;rw[<-cc.out]at ba;have bi:=fun Y (M:zaq Y p b m)=>zff p b m t.c (s.c+t.at') 0 (zf4 t.c) Y M bh (zc0 _ _ _) hs;have N:=fun Y (M:zaa Y q (za3 s t (zbz t.strip q2)) 297)=>zrz q s t (zbz t.strip q2) Y M (by omega) (by omega) (by omega);have H:=fun Y (M:zaa Y q (za3 s t (zbz t.strip q2)) 297)=>zkl q s t (zbz t.strip q2) Y M (by omega) (by omega) (by omega);generalize s.c+t.at'=pa at *;generalize zf4 t.c=hw at *;obtain⟨g,hg,bx⟩:∃ g,Hid (g=decide (m.get pa=0))/\g=decide (m.get pa=0):=⟨_,hd' rfl,rfl⟩;rw[<-bx]at bi;have j:Hid (∀ Y,At3 q p b w Y (za3 s (if g=true then t.own else t.miss s) (zbz t.strip q2)) 297 (m.swap t.c pa 0 hw)->zbu q q2 p b t.strip.isSome w Y (.returned (.tuple #[])) s r.1 r.2):=hd' fun Y l=>by
   rw[B];have e:(if m.get pa=0 then t.own else t.miss s)=(if g=true then t.own else t.miss s):=by rw[bx];by_cases hz:m.get pa=0<;>simp[hz]
   dsimp only;rw[e];refine C.out Y _ _ ?_ l;split<;>assumption
  clear B C bf c1 c2 c3 c4 c5 I c7 c8 c9 U ho hf h b1 bh cc bx hg n o n0;generalize t.own=tO at *;generalize t.miss s=tM at *;generalize zbz t.strip q2=sv at *;generalize t.strip.isSome=has at *;obtain⟨tc,tn,th,ta,ti,tx,T,S,b9⟩:=t;obtain⟨sp,sc,sm⟩:=s;dsimp only at hd n1 V bi N H j ⊢;subst hd n1;replace V:=hd' V;replace ba:=hd' ba;replace bi:=hd' bi;replace N:=hd' N;replace H:=hd' H;have lq:=E.lt;obtain⟨c0,c1,c2,c3⟩:=ci4 sp sc sm tc E.cell;have I:=ci ta (E.cell 6);have c8:=ci 1 (E.cell 8);have b3:=ce (.bool false) (E.cell 11);go_in;go_upto_region 5 with fail;clear c8 b3;refine zad 20 (by kernel_rfl) (by kernel_rfl) ?_;dsimp only[List.take,List.drop];repeat (go_big_quiet_step ((first|(go_at_call 119;exact zam (V.out _))|(go_at_call 154;exact zam (ba.out _)))))
  refine wpQuiet_nil ?_;rintro _ ⟨e',rfl⟩;have hZ:=E.below e'.below;generalize e'.w=Z at *;change wpList _ _ _ _ _ Z;clear c0 c1 c2 c3 I E lq;cases g
  ·go_wp2_with (first|(go_at_call 261;(with_reducible refine(bi.out _ hZ.wds).mono ?_);rintro r w2 ⟨rfl,b8,b7⟩;have l:=hZ.access b8 b7)|(go_at_call 263;(with_reducible refine(H.out _ l.row).mono ?_);rintro r w3 J;obtain rfl:=J.ret));go_returns;exact j.out _ (l.turned J)
  go_wp2_with (first|(go_at_call 261;(with_reducible refine(bi.out _ hZ.wds).mono ?_);rintro r w2 ⟨rfl,b8,b7⟩;have l:=hZ.access b8 b7)|(go_at_call 262;(with_reducible refine(N.out _ l.row).mono ?_);rintro r w3 J;obtain rfl:=J.ret));go_returns;exact j.out _ (l.turned J)
 rw[if_neg n1]at B;by_cases n2:t.next=2
 ·rw[if_pos n2]at B;have I:=I (by omega);obtain⟨x,hx,cj,cm⟩:=c7 n2;rw[hx]at B;dsimp only at B;obtain⟨cd,bg⟩:=h.inn x hx;have bz:=bq (by rw[hx];exact fun e=>by cases e);have F:=zox q2 p b s x m w cd hw bz.1 bz.2 hf cj hs;have O:=h.row;rw[hx]at O E;have bc:Hid (∀ Y e,Stepped q2 p b w Y e (zc9 s (zdu s x m).1) 329 (zdu s x m).2->At1 q Y Y (za3 s t (.pointer (some ⟨q2,0,.none⟩))) 297):=hd' fun Y e hS=>At1.start (O.only hS.only (by rintro(e|e|e);exact bg e;exact bu e;exact bs e));generalize zdu s x m=ym at *;obtain⟨y,m2⟩:=ym;dsimp only at F B bc;have H:=fun Y (M:zaa Y q (za3 s t (.pointer (some ⟨q2,0,.none⟩))) 297)=>zkl q s t (.pointer (some ⟨q2,0,.none⟩)) Y M (by omega) (by omega) (by omega);have b6:=fun Y (M:zaa Y q2 (zc9 s y) 329)=>zpa q2 (zc9 s y) y.held Y M rfl;have b5:=fun Y (M:zaa Y q2 (zc9 s y) 329)=>zog q2 (zc9 s y) y.done Y M rfl;have bj:Hid (∀ Y e Z (t':Rn),Stepped q2 p b w Y e (zc9 s y) 329 m2->t'.strip=some y->At1 q Y Z (za3 s t' (.pointer (some ⟨q2,0,.none⟩))) 297->zbu q q2 p b t.strip.isSome w Z (.returned (.tuple #[])) s t' m2):=hd' fun Y e Z t' hS e2 l=>by
   refine⟨rfl,⟨q2,⟨by rw[e2];exact l.row,fun z hz=>?_⟩,.inl ⟨rfl,fun e=>by rw[hx]at e;cases e⟩⟩,hS.wds.only l.only (fun e=>bu e.symm) (fun e=>bs e.symm),?_⟩
   ·rw[e2]at hz;obtain rfl:=Option.some.inj hz;exact⟨hS.row.only l.only (fun e=>bg e.symm),bg⟩
   refine(hS.only.weak (G:=fun k=>k=q\/(t.strip.isSome=true/\k=q2)\/k=p\/k=b) fun k e=>?_).trans l.only (fun _ _ e=>.inl e);rcases e with e|e|e
   ·exact .inr (.inl ⟨by rw[hx];rfl,e⟩)
   ·exact .inr (.inr (.inl e))
   exact .inr (.inr (.inr e))
  have bb:({t with strip:=some y}:Rn).miss s= { t.miss s with strip:=some y}:=by unfold Rn.miss Rn.gone;dsimp only;split<;>rfl
  rw[bb]at B;have b3:w.cell? ⟨q,11,.none⟩=some (.bool false):=by rw[<-hd];exact h.row.cell 11
  have c8:w.cell? ⟨q,8,.none⟩=some (.int .i64 2):=by rw[<-n2];exact h.row.cell 8
  have c9:=ce (.pointer (some ⟨q2,0,.none⟩)) (O.cell 9);have bk:Hid (∀ Y Z e,zaa Y q (za3 s t (.pointer (some ⟨q2,0,.none⟩))) 297->Turned q Y Z e (za3 s (t.miss s) (.pointer (some ⟨q2,0,.none⟩))) 297->At1 q Y Z (za3 s { t.miss s with strip:=some y} (.pointer (some ⟨q2,0,.none⟩))) 297):=hd' fun Y Z e h1 J=>⟨J.row,J.only,h1.lt⟩;replace F:=hd' F;replace H:=hd' H;replace b6:=hd' b6;replace b5:=hd' b5;have lq:=h.row.lt;clear C E bf c1 c2 c3 c4 c5 I c7 U ho hf h hw n0 n1 n o cd cj cm bb O bz bq;obtain⟨r1,ca⟩:∃ r1,r1=r.1:=⟨_,rfl⟩;have cf:r.2=m2:=by rw[B]
  rw[<-ca,cf];have D:r1=if y.held=true then {t with strip:=some y,next:=3,i:=0} else if y.done=true then { t.miss s with strip:=some y} else {t with strip:=some y}:=by rw[ca,B]
  clear B ca cf;rcases Bool.eq_false_or_eq_true y.held with hh|hh
  ·rw[if_pos hh]at D;replace D:=hd' D;rw[hh]at b6;clear H b5 bk hd n2;have bw:Hid (∀ Y,At1 q Y Y (za3 s t (.pointer (some ⟨q2,0,.none⟩))) 297->Y.cell? ⟨q,7,.none⟩=some (.int .i64 t.i)/\Y.cell? ⟨q,8,.none⟩=some (.int .i64 t.next)):=hd' fun Y l=>⟨l.cell 7,l.cell 8⟩;go_in;go_wp2_with (first|(go_at_call 264;(with_reducible refine F.out.mono ?_);rintro r w2 hS;obtain rfl:=hS.ret;have l:=bc.out _ _ hS;have cp:=l.cell;obtain⟨z7,z8⟩:=bw.out _ l;have zf:=l.free)|(go_at_call 219;(with_reducible refine(b6.out _ hS.row).mono ?_);rintro r w3 ⟨rfl,bm⟩;obtain rfl:=bm.symm));go_returns;rw[D.out];exact bj.out _ _ _ _ hS rfl ((l.set 8 _).set 7 _)
  rw[if_neg (by rw[hh];decide)]at D;rw[hh]at b6;rcases Bool.eq_false_or_eq_true y.done with bn|bn
  ·rw[if_pos bn]at D;rw[bn]at b5;replace D:=hd' D;clear hd n2;go_in;go_wp2_with (first|(go_at_call 264;(with_reducible refine F.out.mono ?_);rintro r w2 hS;obtain rfl:=hS.ret;have l:=bc.out _ _ hS;have cq:=l.cell)|(go_at_call 219;(with_reducible refine(b6.out _ hS.row).mono ?_);rintro r w3 ⟨rfl,bm⟩;obtain rfl:=bm.symm)|(go_at_call 265;(with_reducible refine(b5.out _ hS.row).mono ?_);rintro r w4 ⟨rfl,cb⟩;obtain rfl:=cb.symm)|(go_at_call 263;(with_reducible refine(H.out _ l.row).mono ?_);rintro r w5 J;obtain rfl:=J.ret));go_returns;rw[D.out];exact bj.out _ _ _ _ hS rfl (bk.out _ _ _ l.row J)
  rw[if_neg (by rw[bn];decide)]at D;rw[bn]at b5;replace D:=hd' D;clear hd n2 H bk;go_in;go_wp2_with (first|(go_at_call 264;(with_reducible refine F.out.mono ?_);rintro r w2 hS;obtain rfl:=hS.ret;have l:=bc.out _ _ hS;have cr:=l.cell)|(go_at_call 219;(with_reducible refine(b6.out _ hS.row).mono ?_);rintro r w3 ⟨rfl,bm⟩;obtain rfl:=bm.symm)|(go_at_call 265;(with_reducible refine(b5.out _ hS.row).mono ?_);rintro r w4 ⟨rfl,cb⟩;obtain rfl:=cb.symm));go_returns;rw[D.out];exact bj.out _ _ _ _ hS rfl ⟨l.row,l.only,l.ls⟩
 rw[if_neg n2]at B;by_cases n3:t.next=3
 ·rw[if_pos n3]at B;have I:=I (by omega);have c8:=c8 n3;obtain⟨ch,cg⟩:=hf.slot (x:=t.at') (i:=t.i) (by omega) c8;have X:=fun Y=>zbm s.p s.c s.m t.at' t.i Y;rw[ch]at X B;have F:=fun Y (M:zaq Y p b m)=>zba p b m t.c (s.c+s.p+t.at'*16+t.i) 0 Y M cg (by decide) hs;have N:=fun Y (M:zaa Y q (za3 s {t with i:=t.i+1} (zbz t.strip q2)) 297)=>zrz q s {t with i:=t.i+1} (zbz t.strip q2) Y M (by dsimp only;omega) (by dsimp only;omega) (by dsimp only;omega);have L:({t with i:=t.i+1}:Rn).own.strip=t.strip:=by unfold Rn.own Rn.written;dsimp only;split<;>(try split)<;>rfl
  have b4:t.i+1=16\/(¬ t.i+1=16/\(t.i+1==16)=false):=by
   by_cases h:t.i+1=16
   ·exact .inl h
   exact .inr ⟨h,by simpa using h⟩
  have w1:=wrp (t.i+1);generalize s.c+s.p+t.at'*16+t.i=sa at *;have j:Hid (∀ Y,At3 q p b w Y (za3 s (if t.i+1=16 then({t with i:=t.i+1}:Rn).own else {t with i:=t.i+1}) (zbz t.strip q2)) 297 (m.store t.c sa 0)->zbu q q2 p b t.strip.isSome w Y (.returned (.tuple #[])) s r.1 r.2):=hd' fun Y l=>by
   rw[B];refine C.out Y _ _ ?_ l;dsimp only;split
   ·exact L
   rfl
  clear B C bf c1 c2 c3 c4 c5 I c7 c8 c9 U ho hf h ch cg n o L n0 n1 n2;generalize ({t with i:=t.i+1}:Rn).own=tO at *;generalize zbz t.strip q2=sv at *;generalize t.strip.isSome=has at *;obtain⟨tc,tn,th,ta,ti,tx,T,S,b9⟩:=t;obtain⟨sp,sc,sm⟩:=s;dsimp only at hd n3 X F N j w1 b4 ⊢;subst hd n3;replace X:=hd' X;replace F:=hd' F;replace N:=hd' N;have lq:=E.lt;obtain⟨c0,c1,c2,c3⟩:=ci4 sp sc sm tc E.cell;have I:=ci ta (E.cell 6);have c7:=ci ti (E.cell 7);have c8:=ci 3 (E.cell 8);have b3:=ce (.bool false) (E.cell 11);go_in;go_upto_region 15 with fail;clear c8 b3;refine zad 18 (by kernel_rfl) (by kernel_rfl) ?_;dsimp only[List.take,List.drop];repeat (go_big_quiet_step (((go_at_call 121;exact zam (X.out _)))))
  refine wpQuiet_nil ?_;rintro _ ⟨e',rfl⟩;have hZ:=E.below e'.below;generalize e'.w=Z at *;change wpList _ _ _ _ _ Z;clear c0 c1 c2 c3 I c7 E lq;rcases b4 with b4|⟨bg,b4⟩
  ·rw[if_pos b4]at j;have hb:(ti+1==16)=true:=by simpa using b4
   clear b4;go_wp2_with (first|(go_at_call 257;(with_reducible refine(F.out _ hZ.wds).mono ?_);rintro r w2 ⟨rfl,b8,b7⟩;have l:=hZ.access b8 b7;have z7:=ci ti (l.cell 7);have zf:=l.free;have hB:=l.set 7 (.int .i64 (ti+1)))|(go_at_call 262;(with_reducible refine(N.out _ (hB.row.cast rfl)).mono ?_);rintro r w3 J;obtain rfl:=J.ret));go_returns;exact j.out _ (hB.turned J)
  rw[if_neg bg]at j;clear bg;go_wp2_with (first|(go_at_call 257;(with_reducible refine(F.out _ hZ.wds).mono ?_);rintro r w2 ⟨rfl,b8,b7⟩;have l:=hZ.access b8 b7;have z7:=ci ti (l.cell 7);have zf:=l.free));go_returns;exact j.out _ (l.set 7 _)
 rw[if_neg n3]at B;by_cases n4:t.next=4
 ·rw[if_pos n4]at B;have I:=I (by omega);have c9:=c9 n4;obtain⟨b1,bh⟩:=hf.page (x:=t.i-1) (by omega);rw[b1]at B;have R:=fun W (l:At3 q p b w W (za3 s t (zbz t.strip q2)) 297 m)=>zrp q p b s t (zbz t.strip q2) (t.i-1) 0 0 0 m w W l hf (by omega) hs;have bp:=fun Y (M:zaa Y q (za3 s {t with i:=t.i-1} (zbz t.strip q2)) 297)=>zon q s {t with i:=t.i-1} (zbz t.strip q2) Y M (by dsimp only;omega) (by omega) (by dsimp only;omega);have b0:(({t with i:=t.i-1}:Rn).gone s).strip=t.strip:=by unfold Rn.gone;dsimp only;split<;>rfl
  have w1:=wrp (t.i-1);generalize s.c+(t.i-1)=pa at *;have j:Hid (∀ Y,At3 q p b w Y (za3 s (({t with i:=t.i-1}:Rn).gone s) (zbz t.strip q2)) 297 (m.store t.c pa (zb8 0 0 0))->zbu q q2 p b t.strip.isSome w Y (.returned (.tuple #[])) s r.1 r.2):=hd' fun Y l=>by rw[B];exact C.out Y _ _ b0 l
  clear B C bf c1 c2 c3 c4 c5 I c7 c8 c9 U ho hf h b1 bh n o b0 n0 n1 n2 n3;generalize ({t with i:=t.i-1}:Rn).gone s=tG at *;generalize zbz t.strip q2=sv at *;generalize t.strip.isSome=has at *;generalize zb8 0 0 0=pv at *;obtain⟨tc,tn,th,ta,ti,tx,T,S,b9⟩:=t;obtain⟨sp,sc,sm⟩:=s;dsimp only at hd n4 R bp j w1 ⊢;subst hd n4;replace R:=hd' R;replace bp:=hd' bp;have lq:=E.lt;have c7:=ci ti (E.cell 7);have c8:=ci 4 (E.cell 8);have b3:=ce (.bool false) (E.cell 11);go_in;go_wp2_with (first|(go_at_call 266;(with_reducible refine(R.out _ E).mono ?_);rintro r w2 ⟨rfl,l⟩;have z7:=ci ti (l.cell 7);have zf:=l.free;have hB:=l.set 7 (.int .i64 (ti-1)))|(go_at_call 267;(with_reducible refine(bp.out _ (hB.row.cast rfl)).mono ?_);rintro r w3 J;obtain rfl:=J.ret));go_returns;exact j.out _ (hB.turned J)
 rw[if_neg n4]at B;have n5:t.next=5:=by omega
 have U:=U n5;obtain⟨b1,bh⟩:=hf.page (x:=t.i) (by omega);rw[b1]at B;have R:=fun W (l:At3 q p b w W (za3 s t (zbz t.strip q2)) 297 m)=>zrp q p b s t (zbz t.strip q2) t.i 4 t.head 0 m w W l hf (by omega) hs;have bv:=fun Y (M:zaa Y q (za3 s t (zbz t.strip q2)) 297)=>zj5 q s t (zbz t.strip q2) Y M (by omega) (by omega) (by omega);have b2:t.written.strip=t.strip:=by unfold Rn.written;split<;>rfl
 generalize s.c+t.i=pa at *;have j:Hid (∀ Y,At3 q p b w Y (za3 s t.written (zbz t.strip q2)) 297 (m.store t.c pa (zb8 4 t.head 0))->zbu q q2 p b t.strip.isSome w Y (.returned (.tuple #[])) s r.1 r.2):=hd' fun Y l=>by rw[B];exact C.out Y _ _ b2 l
 clear B C bf c1 c2 c3 c4 c5 I c7 c8 c9 U ho hf h b1 bh n o b2 n0 n1 n2 n3 n4;generalize t.written=tW at *;generalize zbz t.strip q2=sv at *;generalize t.strip.isSome=has at *;generalize zb8 4 t.head 0=pv at *;obtain⟨tc,tn,th,ta,ti,tx,T,S,b9⟩:=t;obtain⟨sp,sc,sm⟩:=s;dsimp only at hd n5 R bv j ⊢;subst hd n5;replace R:=hd' R;replace bv:=hd' bv;have lq:=E.lt;have c5:=ci th (E.cell 5);have c7:=ci ti (E.cell 7);have c8:=ci 5 (E.cell 8);have b3:=ce (.bool false) (E.cell 11);go_in;go_upto_region 24 with fail;refine zad 11 (by kernel_rfl) (by kernel_rfl) ?_;dsimp only[List.take,List.drop];repeat (go_big_quiet_step (fail))
 refine wpQuiet_nil ?_;rintro _ ⟨e',rfl⟩;have hZ:=E.below e'.below;generalize e'.w=Z at *;change wpList _ _ _ _ _ Z;go_wp2_with (first|(go_at_call 266;(with_reducible refine(R.out _ hZ).mono ?_);rintro r w2 ⟨rfl,l⟩)|(go_at_call 268;(with_reducible refine(bv.out _ l.row).mono ?_);rintro r w3 J;obtain rfl:=J.ret));go_returns;exact j.out _ (l.turned J)
end Go.Proofs.YtkbddndcegpllaaGreat
