/- The Runner in memory: its small methods. -/
import Derived.Test.YtkbddndcegpllaaGreatBg15

set_option linter.all false
set_option maxHeartbeats 1000000
namespace Go.Proofs.YtkbddndcegpllaaGreat

open Go.RowKit

attribute [local go_sem ↓] Go.wp_at_zero Go.wp_at_succ

def zbz (o:Option Sp) (q:Nat):Value:=match o with
 | none=> .pointer none
 | some _=> .pointer (some ⟨q,0,.none⟩)
def za3 (s:Sh) (t:Rn) (sv:Value):Array Value:= #[.int .i64 s.p,.int .i64 s.c,.int .i64 s.m,.int .i64 t.c,.int .i64 t.pages,.int .i64 t.head,.int .i64 t.at',.int .i64 t.i,.int .i64 t.next,sv,.bool t.found,.bool t.done]
structure RnAt (w:World) (q q2:Nat) (s:Sh) (t:Rn):Prop where
 row:zaa w q (za3 s t (zbz t.strip q2)) 297
 inn:∀ x,t.strip=some x->zaa w q2 (zc9 s x) 329/\q≠q2
theorem z07(s:Sh)(c n:Int)(w:World):
  Calls Tryz.prog 173 #[.agg #[.int .i64 s.p,.int .i64 s.c,.int .i64 s.m],.int .i64 c,.int .i64 n] w fun e w'=>Born w w' e (za3 s (zf8 s c n) (.pointer none)) 297:=by
 have z:=fun W=>zau s.p s.c s.m c W;have F:za3 s (zf8 s c n) (.pointer none)= #[.int .i64 s.p,.int .i64 s.c,.int .i64 s.m,.int .i64 c,.int .i64 n,.int .i64 0,.int .i64 0,.int .i64 0,.int .i64 0,.pointer none,.bool false,.bool (!(decide (0<=zae s.p s.c s.m c)&&decide (1<=n)&&decide (n<=8)&&decide (n<=s.p)))]:=rfl;rw[F];clear F;generalize zae s.p s.c s.m c=y at *;obtain⟨sp,B,C⟩:=s;dsimp only at z ⊢;replace z:=hd' z;have E:(y<0)\/(0<=y/\n<1)\/(0<=y/\1<=n/\8<n)\/(0<=y/\1<=n/\n<=8/\sp<n)\/(0<=y/\1<=n/\n<=8/\n<=sp):=by omega
 have i:=(Below.refl w.heap.size w).alloc lr (.cells #[.int .i64 sp,.int .i64 B,.int .i64 C] 23);have t0:=heap_alloc_new w (.cells #[.int .i64 sp,.int .i64 B,.int .i64 C] 23);go_in;go_upto_region 1 with fail;generalize w.alloc (.cells #[.int .i64 sp,.int .i64 B,.int .i64 C] 23)=W at *;obtain⟨H,I,q⟩:=hidv w.heap.size;rw[<-q]at t0 ⊢;have J:H<W.heap.size:=(Array.getElem?_eq_some_iff.1 t0).1;have c0:W.cell? ⟨H,0,.none⟩=some (.int .i64 sp):=zac t0 0;have c1:W.cell? ⟨H,1,.none⟩=some (.int .i64 B):=zac t0 1;have c2:W.cell? ⟨H,2,.none⟩=some (.int .i64 C):=zac t0 2;clear q t0;rcases E with j|⟨j,l⟩|⟨j,l,o⟩|⟨j,l,o,D⟩|⟨j,l,o,D⟩;all_goals go_wp2_with (first|(go_at_call 57;(with_reducible refine(z.out _).mono ?_);rintro r L ⟨rfl,b⟩;have G:=zai b _ _ _ c0;have d1:=zai b _ _ _ c1;have d2:=zai b _ _ _ c2));go_returns
 ·exact za6 i b (by simp[Int.not_le.2 j])
 ·exact za6 i b (by simp[j,Int.not_le.2 l])
 ·exact za6 i b (by simp[j,l,Int.not_le.2 o])
 ·exact za6 i b (by simp[j,l,o,Int.not_le.2 D])
 exact za6 i b (by simp[j,l,o,D])
theorem zy1(q:Nat)(cs:Array Value)(v:Bool)(w:World)(h:zaa w q cs 297)(b:cs[11]?=some (.bool v)):Calls Tryz.prog 206 #[.pointer (some ⟨q,0,.none⟩)] w fun e w'=>e= .returned (.bool v)/\w'=w:=by
 have c:=(h.cell 11).trans b;clear h b;go_in;go_wp2_with fail;go_returns;exact⟨rfl,rfl⟩
theorem zvi(q:Nat)(s:Sh)(t:Rn)(sv:Value)(w:World)(i:zaa w q (za3 s t sv) 297):
  Calls Tryz.prog 204 #[.pointer (some ⟨q,0,.none⟩)] w fun e w'=>e= .returned (.tuple #[.int .i64 (if t.found=true then t.head else 0),.bool t.found])/\w'=w:=by
 obtain⟨B,D,n,z,C,E,j,b,l⟩:=t;obtain⟨sp,r,y⟩:=s;have p:=i.lt;have o:=ci n (i.cell 5);have m:=ce (.bool b) (i.cell 10);clear i;dsimp only;cases b;all_goals go_in;go_wp2_with fail;go_returns;exact⟨rfl,rfl⟩
theorem znf(w:World):Calls Tryz.prog 204 #[.pointer none] w fun e w'=>e= .returned (.tuple #[.int .i64 0,.bool false])/\w'=w:=by
 go_in;go_wp2_with fail;go_returns;exact⟨rfl,rfl⟩
theorem zpd(p:Nat)(w:World):
  Calls Tryz.prog 256 #[.pointer none,.pointer (some ⟨p,0,.none⟩)] w fun e w'=>e= .returned (.tuple #[])/\w'=w:=by
 go_in;go_wp2_with fail;go_returns;exact⟨rfl,rfl⟩
theorem zj5(q:Nat)(s:Sh)(t:Rn)(sv:Value)(w:World)(L:zaa w q (za3 s t sv) 297)(H:0<=t.i/\t.i<80)(I:0<=t.head/\t.head<=64)(J:0<=t.pages/\t.pages<=8):
  Calls Tryz.prog 268 #[.pointer (some ⟨q,0,.none⟩)] w fun e w'=>Turned q w w' e (za3 s t.written sv) 297:=by
 have n:=At1.start L;clear L;unfold Rn.written;have b:t.i+1=t.head+t.pages\/(¬ t.i+1=t.head+t.pages/\(t.i+1==t.head+t.pages)=false):=by
  by_cases h:t.i+1=t.head+t.pages
  ·exact .inl h
  exact .inr ⟨h,by simpa using h⟩
 obtain⟨G,j,o⟩:∃ G:Rn,Hid (G=if t.i+1=t.head+t.pages then {t with i:=t.i+1,found:=true,done:=true} else {t with i:=t.i+1})/\G=_:=⟨_,hd' rfl,rfl⟩;rw[<-o];clear o;obtain⟨sp,sc,sm⟩:=s;obtain⟨tc,C,B,ta,p,tx,D,l,m⟩:=t;dsimp only at H I J b j;obtain⟨i1,i2⟩:=H;obtain⟨f1,f2⟩:=I;obtain⟨n1,n2⟩:=J;obtain⟨c0,c1,c2,c3,N,O,R,S⟩:=ci8 sp sc sm tc C B ta p n.cell;have V:=ci tx (n.cell 8);have X:=ce (sv) (n.cell 9);have E:=ce (.bool l) (n.cell 10);have F:=ce (.bool m) (n.cell 11);have M:=n.free;have w1:=wrp (p+1);have w2:=wrp (B+C);go_in;go_upto_region 1 with fail;have r:=n.set 7 (.int .i64 (p+1));generalize World.setCell _ ⟨q,7,.none⟩ (.int .i64 (p+1))=U at *;clear c0 c1 c2 c3 N O R S V X E F n M;have z4:=ci C (r.cell 4);have z5:=ci B (r.cell 5);have z7:=ci (p+1) (r.cell 7);have lU:=r.lt;go_quiet (fail);have y:=r.drewN nq;generalize U.drewN nq=T at *;have Y:=ce (.bool l) (y.cell 10);have Z:=ce (.bool m) (y.cell 11);have M:=y.free;rcases b with b|⟨z,b⟩
 ·replace j:=hd' (j.out.trans (if_pos b));have hb:(p+1==B+C)=true:=by simpa using b
  clear b;go_wp2_with fail;go_returns;exact((y.set 10 _).set 11 _).fin (by rw[j.out];rfl)
 replace j:=hd' (j.out.trans (if_neg z));clear z;go_wp2_with fail;go_returns;exact y.fin (by rw[j.out];rfl)
theorem zrz(q:Nat)(s:Sh)(t:Rn)(sv:Value)(w:World)(R:zaa w q (za3 s t sv) 297)(M:0<=t.at'/\t.at'<80)(I:0<=t.head/\t.head<=64)(J:0<=t.pages/\t.pages<=8):
  Calls Tryz.prog 262 #[.pointer (some ⟨q,0,.none⟩)] w fun e w'=>Turned q w w' e (za3 s t.own sv) 297:=by
 have n:=At1.start R;clear R;unfold Rn.own;have l:=fun Y (hY:zaa Y q (za3 s {t with at':=t.at'+1,next:=5,i:=t.head} sv) 297)=>zj5 q s {t with at':=t.at'+1,next:=5,i:=t.head} sv Y hY (by dsimp only;omega) I J;have b:t.at'+1=t.head+t.pages\/(¬ t.at'+1=t.head+t.pages/\(t.at'+1==t.head+t.pages)=false):=by
  by_cases h:t.at'+1=t.head+t.pages
  ·exact .inl h
  exact .inr ⟨h,by simpa using h⟩
 obtain⟨L,j,o⟩:∃ L:Rn,Hid (L=if t.at'+1=t.head+t.pages then({t with at':=t.at'+1,next:=5,i:=t.head}:Rn).written else {t with at':=t.at'+1,next:=0})/\L=_:=⟨_,hd' rfl,rfl⟩;rw[<-o];clear o;obtain⟨sp,sc,sm⟩:=s;obtain⟨tc,E,z,D,S,tx,F,m,p⟩:=t;dsimp only at M I J b j l;obtain⟨i1,i2⟩:=M;obtain⟨f1,f2⟩:=I;obtain⟨n1,n2⟩:=J;replace l:=hd' l;obtain⟨c0,c1,c2,c3,X,Z,c6,c7⟩:=ci8 sp sc sm tc E z D S n.cell;have c8:=ci tx (n.cell 8);have c9:=ce (sv) (n.cell 9);have G:=ce (.bool m) (n.cell 10);have H:=ce (.bool p) (n.cell 11);have V:=n.free;have w1:=wrp (D+1);have w2:=wrp (z+E);go_in;go_upto_region 2 with fail;have B:=(n.set 6 (.int .i64 (D+1))).set 8 (.int .i64 0);generalize World.setCell _ ⟨q,8,.none⟩ (.int .i64 0)=U at *;clear c0 c1 c2 c3 X Z c6 c7 c8 c9 G H n V;have z4:=ci E (B.cell 4);have z5:=ci z (B.cell 5);have z6:=ci (D+1) (B.cell 6);have lU:=B.lt;go_quiet (fail);have y:=B.drewN nq;generalize U.drewN nq=T at *;have k5:=ci z (y.cell 5);have k7:=ci S (y.cell 7);have k8:=ci 0 (y.cell 8);have V:=y.free;rcases b with b|⟨C,b⟩
 ·replace j:=hd' (j.out.trans (if_pos b));have hb:(D+1==z+E)=true:=by simpa using b
  clear b;have N:=(y.set 8 (.int .i64 5)).set 7 (.int .i64 z);go_wp2_with (go_at_call 268;(with_reducible refine(l.out _ (N.row.cast rfl)).mono ?_);rintro r w1 O;obtain rfl:=O.ret);go_returns;exact(N.turned O).fin (by rw[j.out])
 replace j:=hd' (j.out.trans (if_neg C));clear C;go_wp2_with fail;go_returns;exact y.fin (by rw[j.out];rfl)
theorem zon(q:Nat)(s:Sh)(t:Rn)(sv:Value)(w:World)(Y:zaa w q (za3 s t sv) 297)(O:0<=t.at'/\t.at'<80)(R:0<=s.p/\s.p<=64)(S:0<=t.pages/\t.pages<=8):
  Calls Tryz.prog 267 #[.pointer (some ⟨q,0,.none⟩)] w fun e w'=>Turned q w w' e (za3 s (t.gone s) sv) 297:=by
 have m:=At1.start Y;clear Y;unfold Rn.gone;obtain⟨M,b,o⟩:∃ M:Rn,Hid (M=if t.head<t.i then t else {t with at':=t.at'+1,head:=t.at'+1,next:=0,done:=decide (s.p-t.pages<t.at'+1)})/\M=_:=⟨_,hd' rfl,rfl⟩;rw[<-o];clear o;obtain⟨sp,Z,sm⟩:=s;obtain⟨tc,D,B,y,C,tx,E,l,j⟩:=t;dsimp only at O R S b;obtain⟨i1,i2⟩:=O;obtain⟨f1,f2⟩:=R;obtain⟨n1,n2⟩:=S;obtain⟨c0,c1,c2,c3,c4,c5,c6,c7⟩:=ci8 sp Z sm tc D B y C m.cell;have c8:=ci tx (m.cell 8);have c9:=ce (sv) (m.cell 9);have G:=ce (.bool l) (m.cell 10);have H:=ce (.bool j) (m.cell 11);have F:=m.free;have lq:=m.lt;have w1:=wrp (y+1);have w2:=wrp (sp-D);go_in;go_wp2_with fail;go_quiet (fail);have n:=m.drewN nq;clear c0 c1 c2 c3 c4 c5 c6 c7 c8 c9 G H m F lq;generalize w.drewN nq=T at *;obtain⟨k0,k1,k2,k3,k4,k5,k6,k7⟩:=ci8 sp Z sm tc D B y C n.cell;have k8:=ci tx (n.cell 8);have k9:=ce (sv) (n.cell 9);have J:=ce (.bool l) (n.cell 10);have L:=ce (.bool j) (n.cell 11);have F:=n.free;by_cases r:B<C
 ·replace b:=hd' (b.out.trans (if_pos r));go_wp2_with fail;go_returns;exact n.fin (by rw[b.out])
 replace b:=hd' (b.out.trans (if_neg r));have X:decide (B<C)=false:=decide_eq_false r;go_upto_region 3 with fail;have z:=((n.set 6 (.int .i64 (y+1))).set 5 (.int .i64 (y+1))).set 8 (.int .i64 0);generalize World.setCell _ ⟨q,8,.none⟩ (.int .i64 0)=U at *;clear k0 k1 k2 k3 k4 k5 k6 k7 k8 k9 J L n F;have z0:=ci sp (z.cell 0);have z4:=ci D (z.cell 4);have z5:=ci (y+1) (z.cell 5);have lU:=z.lt;refine zad 18 (by kernel_rfl) (by kernel_rfl) ?_;dsimp only[List.take,List.drop];repeat (go_big_quiet_step (fail))
 refine wpQuiet_nil ?_;rintro _ ⟨N,rfl⟩;have I:=z.below N.below;generalize N.w=V at *;change wpList _ _ _ _ _ V;have b0:=ce (.bool j) (I.cell 11);have F:=I.free;go_wp2_with fail;go_returns;exact(I.set 11 _).fin (by rw[b.out];rfl)
theorem zkl(q:Nat)(s:Sh)(t:Rn)(sv:Value)(w:World)(D:zaa w q (za3 s t sv) 297)(o:0<=t.at'/\t.at'<80)(y:0<=s.p/\s.p<=64)(z:0<=t.pages/\t.pages<=8):
  Calls Tryz.prog 263 #[.pointer (some ⟨q,0,.none⟩)] w fun e w'=>Turned q w w' e (za3 s (t.miss s) sv) 297:=by
 have l:=At1.start D;clear D;unfold Rn.miss;have b:=fun Y (H:zaa Y q (za3 s {t with next:=4,i:=t.at'} sv) 297)=>zon q s {t with next:=4,i:=t.at'} sv Y H o y z;generalize ({t with next:=4,i:=t.at'}:Rn).gone s=t2 at *;obtain⟨sp,I,J⟩:=s;obtain⟨L,O,M,E,N,R,n,j,m⟩:=t;dsimp only at b;replace b:=hd' b;clear o y z;obtain⟨c0,c1,c2,c3,S,T,U,V⟩:=ci8 sp I J L O M E N l.cell;have X:=ci R (l.cell 8);have Z:=ce (sv) (l.cell 9);have F:=ce (.bool j) (l.cell 10);have G:=ce (.bool m) (l.cell 11);have zf:=l.free;have B:=(l.set 8 (.int .i64 4)).set 7 (.int .i64 E);go_in;go_wp2_with (go_at_call 267;(with_reducible refine(b.out _ (B.row.cast rfl)).mono ?_);rintro r w1 C;obtain rfl:=C.ret);go_returns;exact(B.turned C).fin rfl
theorem zrp(q p b:Nat)(s:Sh)(t:Rn)(sv:Value)(pg k a c:Int)(m:Mem)(M w:World)(N:At3 q p b M w (za3 s t sv) 297 m)(L:Fits s m)(n:0<=pg/\pg<s.p)(hs:m.st<1000000000):
  Calls Tryz.prog 266 #[.pointer (some ⟨q,0,.none⟩),.pointer (some ⟨p,0,.none⟩),.int .i64 pg,.agg #[.int .i64 k,.int .i64 a,.int .i64 c]] w fun e w'=>e= .returned (.tuple #[])/\At3 q p b M w' (za3 s t sv) 297 (m.store t.c (s.c+pg) (zb8 k a c)):=by
 obtain⟨y,o⟩:=L.page n;have i:=fun Y=>planPage_any s.p s.c s.m pg Y;rw[y]at i;have j:=fun Y=>zcd k a c Y;have l:=fun Y (O:zaq Y p b m)=>zba p b m t.c (s.c+pg) (zb8 k a c) Y O o (zc0 _ _ _) hs;generalize s.c+pg=pa at *;generalize zb8 k a c=pv at *;clear y o L n;obtain⟨sp,R,S⟩:=s;obtain⟨T,tn,th,ta,ti,tx,B,z,G⟩:=t;dsimp only at i l ⊢;replace i:=hd' i;replace j:=hd' j;replace l:=hd' l;go_in;go_upto_region 1 with fail;have C:=N.alloc (.cells #[.int .i64 k,.int .i64 a,.int .i64 c] 128);have I:zaa (w.alloc (.cells #[.int .i64 k,.int .i64 a,.int .i64 c] 128)) w.heap.size #[.int .i64 k,.int .i64 a,.int .i64 c] 128:=heap_alloc_new _ _;generalize w.alloc (.cells #[.int .i64 k,.int .i64 a,.int .i64 c] 128)=X at *;have lX:=C.lt;generalize w.heap.size=E at *;have lE:=I.lt;obtain⟨g0,U,V⟩:=ci3 k a c I.cell;obtain⟨z0,z1,z2,z3⟩:=ci4 sp R S T C.cell;refine zad 13 (by kernel_rfl) (by kernel_rfl) ?_;dsimp only[List.take,List.drop];repeat (go_big_quiet_step ((first|(go_at_call 119;exact zam (i.out _))|(go_at_call 154;exact zam (j.out _)))))
 refine wpQuiet_nil ?_;rintro _ ⟨H,rfl⟩;have J:=C.below H.below;generalize H.w=Z at *;change wpList _ _ _ _ _ Z;go_wp2_with (go_at_call 257;(with_reducible refine(l.out _ J.wds).mono ?_);rintro r w2 ⟨rfl,F,D⟩);go_returns;exact⟨rfl,J.access F D⟩
end Go.Proofs.YtkbddndcegpllaaGreat
