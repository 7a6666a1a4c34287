
import Derived.Test.YtkilokkopbajkaaGreatBw15

set_option linter.all false
set_option maxHeartbeats 2000000
set_option maxRecDepth 100000
namespace Go.Proofs.YtkilokkopbajkaaGreat

open RowKit

attribute [local go_sem ↓] wp_at_zero wp_at_succ

attribute [local go_sem] IC

def MB (o:Option Sp) (q:Nat):Value:=match o with
 |none=>.pointer none
 |some _=>.pointer (some ⟨q,0,.none⟩)
def UA (s:Sh) (t:Rn) (sv:Value):Array Value:=#[s.p,s.c,s.m,t.c,t.pages,t.head,t.at',t.i,t.next,sv,t.found,t.done]
attribute [local go_sem] UA

structure RnAt (w:World) (q q2:Nat) (s:Sh) (t:Rn):Prop where
 row:aA w q (UA s t (MB t.strip q2)) 264
 inn:∀x,t.strip=some x->aA w q2 (IC s x) 292/\q≠q2
theorem z07(s:Sh)(c n:Int)(w:World):
  Calls Tryz.prog 149 #[.agg #[s.p,s.c,s.m],c,n] w λe w'=>Born w w' e (UA s (FC s c n) (.pointer none)) 264:=by
 have o:=λW=>pC s.p s.c s.m c W;have B:UA s (FC s c n) (.pointer none)=#[.int .i64 s.p,.int .i64 s.c,.int .i64 s.m,.int .i64 c,.int .i64 n,.int .i64 0,.int .i64 0,.int .i64 0,.int .i64 0,.pointer none,.bool false,.bool (!(decide (0<=uA s.p s.c s.m c)&&decide (1<=n)&&decide (n<=8)&&decide (n<=s.p)))]:=rfl;rw[B];clear B;generalize uA s.p s.c s.m c=l at*;obtain⟨sp,q,y⟩:=s;dsimp only at o|-;replace o:=hd' o;have z:(l<0)\/(0<=l/\n<1)\/(0<=l/\1<=n/\8<n)\/(0<=l/\1<=n/\n<=8/\sp<n)\/(0<=l/\1<=n/\n<=8/\n<=sp):=by omega
 have i:=(Below.refl w.heap.size w).alloc lr (.cells #[sp,q,y] 23);have t0:=jA w (.cells #[sp,q,y] 23);go_in;go_upto_region 1 with fail;generalize w.alloc (.cells #[sp,q,y] 23)=W at*;obtain⟨H,D,j⟩:=hidv w.heap.size;rw[<-j]at t0|-;have E:H<W.heap.size:=(jE t0);have c0:W.cell? ⟨H,0,.none⟩=some (.int .i64 sp):=iA t0 0;have c1:W.cell? ⟨H,1,.none⟩=some (.int .i64 q):=iA t0 1;have c2:W.cell? ⟨H,2,.none⟩=some (.int .i64 y):=iA t0 2;clear j t0;rcases z with h1|⟨h1,h2⟩|⟨h1,h2,h3⟩|⟨h1,h2,h3,h4⟩|⟨h1,h2,h3,h4⟩;all_goals go_wp2_with (first|(go_at_call 44;refine(o _).mono ?_;rintro r F ⟨rfl,b⟩;have C:=kA b _ _ _ c0;have d1:=kA b _ _ _ c1;have d2:=kA b _ _ _ c2));go_returns
 .exact WB i b (by simp[Int.not_le.2 h1])
 .exact WB i b (by simp[h1,Int.not_le.2 h2])
 .exact WB i b (by simp[h1,h2,Int.not_le.2 h3])
 .exact WB i b (by simp[h1,h2,h3,Int.not_le.2 h4])
 exact WB i b (by simp[h1,h2,h3,h4])
theorem zy1(q:Nat)(cs:Array Value)(v:Bool)(w:World)(h:aA w q cs 264)(b:cs[11]?=some (.bool v)):Calls Tryz.prog 172 #[some q] w λe w'=>e=.returned (.bool v)/\w'=w:=by
 have c:=(h.cell 11).trans b;clear h b;go_in;go_wp2_with fail;go_returns;exact⟨rfl,rfl⟩
theorem zvi(q:Nat)(s:Sh)(t:Rn)(sv:Value)(w:World)(j:aA w q (UA s t sv) 264):
  Calls Tryz.prog 170 #[some q] w λe w'=>e=.returned (.tuple #[.int .i64 (if t.found=true then t.head else 0),t.found])/\w'=w:=by
 obtain⟨y,C,z,r,B,D,i,b,l⟩:=t;obtain⟨sp,o,p⟩:=s;have n:=j.lt;have m:=j.cell;clear j;dsimp only;cases b;all_goals go_in;go_wp2_with fail;go_returns;exact⟨rfl,rfl⟩
theorem gV(w:World):Calls Tryz.prog 170 #[.pointer none] w λe w'=>e=.returned (.tuple #[.int .i64 0,.bool false])/\w'=w:=by
 go_in;go_wp2_with fail;go_returns;exact⟨rfl,rfl⟩
theorem SV(p:Nat)(w:World):
  Calls Tryz.prog 217 #[.pointer none,some p] w λe w'=>e=.returned (.tuple #[])/\w'=w:=by
 go_in;go_wp2_with fail;go_returns;exact⟨rfl,rfl⟩
theorem BU(q:Nat)(s:Sh)(t:Rn)(sv:Value)(w:World)(D:aA w q (UA s t sv) 264)(h1:0<=t.i/\t.i<80)(h2:0<=t.head/\t.head<=64)(h3:0<=t.pages/\t.pages<=8):
  Calls Tryz.prog 229 #[some q] w λe w'=>Turned q w w' e (UA s t.written sv) 264:=by
 have h0:=At1.start D;clear D;unfold Rn.written;have b:t.i+1=t.head+t.pages\/(¬t.i+1=t.head+t.pages/\(t.i+1==t.head+t.pages)=false):=by
  by_cases h:t.i+1=t.head+t.pages
  .exact .inl h
  exact .inr ⟨h,by simpa using h⟩
 obtain⟨B,j,l⟩:∃B:Rn,Hid (B=if t.i+1=t.head+t.pages then {t with i:=t.i+1,found:=true,done:=true} else {t with i:=t.i+1})/\B=_:=⟨_,hd' rfl,rfl⟩;rw[<-l];clear l;obtain⟨sp,N,O⟩:=s;obtain⟨S,F,E,R,p,V,r,o,C⟩:=t;dsimp only at h1 h2 h3 b j;obtain⟨J,L⟩:=h1;obtain⟨f1,f2⟩:=h2;obtain⟨n1,n2⟩:=h3;have y:=h0.cell;have G:=h0.free;have X:=wrp (p+1);have Y:=wrp (E+F);go_in;go_upto_region 1 with fail;have z:=h0.set 7 (.int .i64 (p+1));generalize World.setCell _ ⟨q,7,.none⟩ (.int .i64 (p+1))=U at*;clear y h0 G;have H:=z.cell;have M:=z.lt;go_quiet (fail);have n:=z.drewN nq;generalize U.drewN nq=T at*;have I:=n.cell;have G:=n.free;rcases b with b|⟨m,b⟩
 .replace j:=hd' (j.out.trans (jP b));have hb:(p+1==E+F)=true:=by simpa using b
  clear b;go_wp2_with fail;go_returns;exact((n.set 10 _).set 11 _).fin (by rw[j];rfl)
 replace j:=hd' (j.out.trans (jN m));clear m;go_wp2_with fail;go_returns;exact n.fin (by rw[j];rfl)
theorem zW(q:Nat)(s:Sh)(t:Rn)(sv:Value)(w:World)(I:aA w q (UA s t sv) 264)(h1:0<=t.at'/\t.at'<80)(h2:0<=t.head/\t.head<=64)(h3:0<=t.pages/\t.pages<=8):
  Calls Tryz.prog 223 #[some q] w λe w'=>Turned q w w' e (UA s t.own sv) 264:=by
 have h0:=At1.start I;clear I;unfold Rn.own;have l:=λY (O:aA Y q (UA s {t with at':=t.at'+1,next:=5,i:=t.head} sv) 264)=>BU q s {t with at':=t.at'+1,next:=5,i:=t.head} sv Y O (by dsimp only;omega) h2 h3;have b:t.at'+1=t.head+t.pages\/(¬t.at'+1=t.head+t.pages/\(t.at'+1==t.head+t.pages)=false):=by
  by_cases h:t.at'+1=t.head+t.pages
  .exact .inl h
  exact .inr ⟨h,by simpa using h⟩
 obtain⟨C,j,m⟩:∃C:Rn,Hid (C=if t.at'+1=t.head+t.pages then({t with at':=t.at'+1,next:=5,i:=t.head}:Rn).written else {t with at':=t.at'+1,next:=0})/\C=_:=⟨_,hd' rfl,rfl⟩;rw[<-m];clear m;obtain⟨sp,Z,sm⟩:=s;obtain⟨tc,J,F,D,ti,tx,y,p,E⟩:=t;dsimp only at h1 h2 h3 b j l;obtain⟨S,V⟩:=h1;obtain⟨f1,f2⟩:=h2;obtain⟨n1,n2⟩:=h3;replace l:=hd' l;have z:=h0.cell;have L:=h0.free;have R:=wrp (D+1);have w2:=wrp (F+J);go_in;go_upto_region 2 with fail;have B:=(h0.set 6 (.int .i64 (D+1))).set 8 (.int .i64 0);generalize World.setCell _ ⟨q,8,.none⟩ (.int .i64 0)=U at*;clear z h0 L;have M:=B.cell;have X:=B.lt;go_quiet (fail);have o:=B.drewN nq;generalize U.drewN nq=T at*;have N:=o.cell;have L:=o.free;rcases b with b|⟨n,b⟩
 .replace j:=hd' (j.out.trans (jP b));have hb:(D+1==F+J)=true:=by simpa using b
  clear b;have G:=(o.set 8 (.int .i64 5)).set 7 (.int .i64 F);go_wp2_with (go_at_call 229;(with_reducible refine(l _ (G.row.cast rfl)).mono ?_);rintro r R H;obtain rfl:=H.ret);go_returns;exact(G.turned H).fin (by rw[j])
 replace j:=hd' (j.out.trans (jN n));clear n;go_wp2_with fail;go_returns;exact o.fin (by rw[j];rfl)
theorem DV(q:Nat)(s:Sh)(t:Rn)(sv:Value)(w:World)(I:aA w q (UA s t sv) 264)(h1:0<=t.at'/\t.at'<80)(h2:0<=s.p/\s.p<=64)(h3:0<=t.pages/\t.pages<=8):
  Calls Tryz.prog 228 #[some q] w λe w'=>Turned q w w' e (UA s (t.gone s) sv) 264:=by
 have h0:=At1.start I;clear I;unfold Rn.gone;obtain⟨E,b,j⟩:∃E:Rn,Hid (E=if t.head<t.i then t else {t with at':=t.at'+1,head:=t.at'+1,next:=0,done:=decide (s.p-t.pages<t.at'+1)})/\E=_:=⟨_,hd' rfl,rfl⟩;rw[<-j];clear j;obtain⟨sp,Z,sm⟩:=s;obtain⟨tc,R,J,F,L,tx,o,n,G⟩:=t;dsimp only at h1 h2 h3 b;obtain⟨S,X⟩:=h1;obtain⟨f1,f2⟩:=h2;obtain⟨n1,n2⟩:=h3;have y:=h0.cell;have r:=h0.free;have O:=h0.lt;have w1:=wrp (F+1);have w2:=wrp (sp-R);go_in;go_wp2_with fail;go_quiet (fail);have m:=h0.drewN nq;clear y h0 r O;generalize w.drewN nq=T at*;have z:=m.cell;have r:=m.free;by_cases l:J<L
 .replace b:=hd' (b.out.trans (jP l));go_wp2_with fail;go_returns;exact m.fin (by rw[b])
 replace b:=hd' (b.out.trans (jN l));have H:decide (J<L)=false:=jF l;go_upto_region 3 with fail;have B:=((m.set 6 (.int .i64 (F+1))).set 5 (.int .i64 (F+1))).set 8 (.int .i64 0);generalize World.setCell _ ⟨q,8,.none⟩ (.int .i64 0)=U at*;clear z m r;have M:=B.cell;have Y:=B.lt;refine wret 18 ?_;repeat (go_big_quiet_step (fail))
 refine wqn λV D=>?_;have C:=B.below D;have N:=C.cell;have r:=C.free;go_wp2_with fail;go_returns;exact(C.set 11 _).fin (by rw[b];rfl)
theorem AP(q:Nat)(s:Sh)(t:Rn)(sv:Value)(w:World)(y:aA w q (UA s t sv) 264)(h1:0<=t.at'/\t.at'<80)(h2:0<=s.p/\s.p<=64)(h3:0<=t.pages/\t.pages<=8):
  Calls Tryz.prog 224 #[some q] w λe w'=>Turned q w w' e (UA s (t.miss s) sv) 264:=by
 have h0:=At1.start y;clear y;unfold Rn.miss;have b:=λY (B:aA Y q (UA s {t with next:=4,i:=t.at'} sv) 264)=>DV q s {t with next:=4,i:=t.at'} sv Y B h1 h2 h3;generalize ({t with next:=4,i:=t.at'}:Rn).gone s=F at*;obtain⟨sp,D,E⟩:=s;obtain⟨G,J,H,C,I,L,l,j,m⟩:=t;dsimp only at b;replace b:=hd' b;clear h1 h2 h3;have z:=h0.cell;have N:=h0.free;have n:=(h0.set 8 (.int .i64 4)).set 7 (.int .i64 C);go_in;go_wp2_with (go_at_call 228;(with_reducible refine(b _ (n.row.cast rfl)).mono ?_);rintro r M o;obtain rfl:=o.ret);go_returns;exact(n.turned o).fin rfl
theorem qW(q p b:Nat)(s:Sh)(t:Rn)(sv:Value)(pg k a c:Int)(m:Mem)(M w:World)(h0:At3 q p b M w (UA s t sv) 264 m)(L:Fits s m)(n:0<=pg/\pg<s.p)(hs:m.st<1000000000):
  Calls Tryz.prog 227 #[some q,some p,pg,.agg #[k,a,c]] w λe w'=>e=.returned (.tuple #[])/\At3 q p b M w' (UA s t sv) 264 (m.store t.c (s.c+pg) (QA k a c)):=by
 obtain⟨y,o⟩:=L.page n;have i:=λY=>JB s.p s.c s.m pg Y;rw[y]at i;have j:=λY=>WF k a c Y;have l:=λY (R:oA Y p b m)=>tC p b m t.c (s.c+pg) (QA k a c) Y R o (sF _ _ _) hs;generalize s.c+pg=pa at*;generalize QA k a c=U at*;clear y o L n;obtain⟨sp,V,sm⟩:=s;obtain⟨tc,tn,th,ta,ti,tx,B,z,H⟩:=t;dsimp only at i l|-;replace i:=hd' i;replace j:=hd' j;replace l:=hd' l;go_in;go_upto_region 1 with fail;have C:=h0.alloc (.cells #[k,a,c] 136);have I:aA (w.alloc (.cells #[k,a,c] 136)) w.heap.size #[k,a,c] 136:=jA _ _;generalize w.alloc (.cells #[k,a,c] 136)=X at*;have T:=C.lt;generalize w.heap.size=E at*;have S:=I.lt;have N:=I.cell;have O:=C.cell;refine wret 13 ?_;repeat (go_big_quiet_step ((first|(go_at_call 112;exact AA (i _))|(go_at_call 139;exact AA (j _)))))
 refine wqn λZ D=>?_;have J:=C.below D;go_wp2_with (go_at_call 218;(with_reducible refine(l _ J.wds).mono ?_);rintro r w2 ⟨rfl,G,F⟩);go_returns;exact⟨rfl,J.access G F⟩
structure tD (q q2 p b:Nat) (has:Bool) (w w':World) (e:Ending) (s:Sh) (t:Rn) (m:Mem):Prop where
 ret:e=.returned (.tuple #[])
 at':∃q3,RnAt w' q q3 s t/\(q3=q2/\(has=false->t.strip=none)\/w.heap.size<=q3)
 wds:oA w' p b m
 only:Only (λk=>k=q\/(has=true/\k=q2)\/k=p\/k=b) w w'
theorem tD.ZI{q q2 p b:Nat}{w w':World}{s:Sh}{t t':Rn}{m:Mem}(h:RnAt w q q2 s t)(n:t.strip≠none->q2≠p/\q2≠b)(i:At3 q p b w w' (UA s t' (MB t'.strip q2)) 264 m)(l:t'.strip=t.strip):tD q q2 p b t.strip.isSome w w' (.returned (.tuple #[])) s t' m:=by
 refine⟨rfl,⟨q2,⟨i.row,λx j=>?_⟩,.inl ⟨rfl,λe=>?_⟩⟩,i.wds,i.only.weak λk f=>?_⟩
 .rw[l]at j;obtain⟨h1,h2⟩:=h.inn x j;have h3:=n (by rw[j];exact λe=>by cases e);exact⟨h1.only i.only (by rintro(e|e|e);exact h2 e.symm;exact h3.1 e;exact h3.2 e),h2⟩
 .rw[l];rcases hq:t.strip with _|x
  .rfl
  rw[hq]at e;cases e
 rcases f with f|f|f
 .exact .inl f
 .exact .inr (.inr (.inl f))
 exact .inr (.inr (.inr f))
def nI (s:Sh) (t:Rn) (m:Mem):Rn:=
 let pg:=pA s.p s.c s.m t.at'
 if LA s.p s.c s.m t.at' (m.get pg)=true/\PA (m.get pg)=0 then {t with next:=1}
 else if LA s.p s.c s.m t.at' (m.get pg)=true/\PA (m.get pg)=2 then {t with next:=2,strip:=some (VB s t.c t.at' (nA (m.get pg) 0))}
 else t.miss s
theorem zxl(q q2 p b:Nat)(s:Sh)(t:Rn)(m:Mem)(w:World)(h:RnAt w q q2 s t)(hw:oA w p b m)(bm:q≠p)(bk:q≠b)(b4:t.strip≠none->q2≠p/\q2≠b)(hf:Fits s m)(hs:m.st<1000000000)(ha:0<=t.at'/\t.at'<s.p) (b9:0<=t.pages/\t.pages<=8):
  Calls Tryz.prog 221 #[some q,some p] w λe w'=>tD q q2 p b t.strip.isSome w w' e s (nI s t m) (m.load t.c (s.c+t.at')):=by
 have bg:=hf.bd;have h0:At3 q p b w w (UA s t (MB t.strip q2)) 264 m:=At3.start h.row hw bm bk;obtain⟨b5,ba⟩:=hf.page ha;have D:=λY=>JB s.p s.c s.m t.at' Y;rw[b5]at D;have N:=λY (hY:oA Y p b m)=>uF p b m t.c (s.c+t.at') Y hY ba hs;have R:=λY=>ZJ s t.at' (m.get (s.c+t.at')) Y (Mem.yF hw.fit _);have J:=λY (hY:aA Y q (UA s t (MB t.strip q2)) 264)=>AP q s t (MB t.strip q2) Y hY (by omega) (by omega) b9;have G:=λk Y=>GW s t.c t.at' k Y;have hr:nI s t m=if LA s.p s.c s.m t.at' (m.get (s.c+t.at'))=true/\pgK s t.at' (m.get (s.c+t.at'))=0 then {t with next:=1} else if LA s.p s.c s.m t.at' (m.get (s.c+t.at'))=true/\pgK s t.at' (m.get (s.c+t.at'))=2 then {t with next:=2,strip:=some (VB s t.c t.at' (pgP s t.at' (m.get (s.c+t.at')) 0))} else t.miss s:=by unfold nI pgK pgP;rw[b5];by_cases H:LA s.p s.c s.m t.at' (m.get (s.c+t.at'))=true<;>simp[H]
 obtain⟨t2,L,V⟩:∃t2:Rn,Hid (t2=nI s t m)/\t2=nI s t m:=⟨_,hd' rfl,rfl⟩;rw[<-V];clear V;replace L:=hd' (L.out.trans hr);clear hr;generalize s.c+t.at'=pa at*;generalize m.get pa=x at*;generalize LA s.p s.c s.m t.at' x=B at*;generalize pgK s t.at' x=S at*;generalize pgP s t.at' x 0=X at*;generalize pgP s t.at' x 1=e2 at*;replace G:=λY=>G X Y;generalize bi:VB s t.c t.at' X=nb at*;have y:(t.miss s).strip=t.strip:=by unfold Rn.miss Rn.gone;split<;>rfl
 have l:Hid (∀Y,B=true/\S=0->At3 q p b w Y (UA s {t with next:=1} (MB t.strip q2)) 264 (m.load t.c pa)->tD q q2 p b t.strip.isSome w Y (.returned (.tuple #[])) s t2 (m.load t.c pa)):=hd' λY H F=>by rw[L.out.trans (jP H)];exact tD.ZI h b4 F rfl
 have n:Hid (∀Y q3,B=true/\S=2->w.heap.size<=q3->aA Y q3 (IC s nb) 292->At3 q p b w Y (UA s {t with next:=2,strip:=some nb} (.pointer (some ⟨q3,0,.none⟩))) 264 (m.load t.c pa)->tD q q2 p b t.strip.isSome w Y (.returned (.tuple #[])) s t2 (m.load t.c pa)):=hd' λY q3 H h3 bc F=>by
  have e:=L.out.trans (jN (λh=>by have:=H.2;have:=h.2;omega))|>.trans (jP H);rw[e];refine⟨rfl,⟨q3,⟨F.row,λz hz=>?_⟩,.inr h3⟩,F.wds,F.only.weak λk T=>?_⟩
  .simp only[Option.some.injEq]at hz;subst hz;exact⟨bc,by have:=h0.ls;omega⟩
  rcases T with T|T|T
  .exact .inl T
  .exact .inr (.inr (.inl T))
  exact .inr (.inr (.inr T))
 have o:Hid (∀Y,¬(B=true/\S=0)->¬(B=true/\S=2)->At3 q p b w Y (UA s (t.miss s) (MB t.strip q2)) 264 (m.load t.c pa)->tD q q2 p b t.strip.isSome w Y (.returned (.tuple #[])) s t2 (m.load t.c pa)):=hd' λY H I F=>by rw[L.out.trans (jN H)|>.trans (jN I)];exact tD.ZI h b4 (by rw[y];exact F) y
 clear L bi b5 ba bg hf h hw b4 ha b9 y;generalize t.miss s=tM at*;generalize MB t.strip q2=sv at*;generalize t.strip.isSome=has at*;generalize IC s nb=bu at*;obtain⟨sp,sc,sm⟩:=s;obtain⟨U,tn,th,ta,ti,tx,j,i,C⟩:=t;dsimp only at N R D J G l n o|-;replace N:=hd' N;replace R:=hd' R;replace D:=hd' D;replace J:=hd' J;replace G:=hd' G;have lq:=h0.lt;have bf:=h0.cell;go_in;go_upto_region 0 with fail;go_cut [4,5] (λs4 s5 wx=>∃E,s4=.pointer (some ⟨E,0,.none⟩)/\s5=.bool B/\w.heap.size<=E/\aA wx E #[S,X,e2] 136/\At3 q p b w wx (UA ⟨sp,sc,sm⟩ ⟨U,tn,th,ta,ti,tx,j,i,C⟩ sv) 264 (m.load U pa));case first=>
  refine wrl (x:=⟨27,28,25,4,31,136,#[.int .i64 0,.int .i64 0,.int .i64 0],#[S,X,e2]⟩) (ld:=22) (v:=.int .u64 x) (ts:=[15,19,28])
   (K0:=λY=>At3 q p b w Y (UA ⟨sp,sc,sm⟩ ⟨U,tn,th,ta,ti,tx,j,i,C⟩ sv) 264 m) (K1:=λY=>At3 q p b w Y (UA ⟨sp,sc,sm⟩ ⟨U,tn,th,ta,ti,tx,j,i,C⟩ sv) 264 (m.load U pa))
   ⟨⟨λY Y' h1 h2 h3=>h1.far h2 h3 h0.only.size⟩,⟨λY Y' h1 h2 h3=>h1.far h2 h3 h0.only.size⟩⟩ h0.drew ?_
  apply Exists.intro;refine⟨λB hb hs=>?_,λ_=>?_,?_,?_⟩;case refine_1=>
   have bb:aA B q (UA ⟨sp,sc,sm⟩ ⟨U,tn,th,ta,ti,tx,j,i,C⟩ sv) 264:=hb.elim (λh=>h.row) (λh=>h.row);have lB:=bb.lt;have bq:=bb.cell;repeat (go_big_quiet_step ((first|(go_at_call 112;exact AA (D _))|(go_at_call 111;exact AA (R _)))))
   exact wpQuiet_nil rfl
  case refine_2=>exact YM rfl rfl rfl rfl rfl rfl rfl rfl (by dsimp only;decide +kernel) (by dsimp only;decide +kernel)
  case refine_3=>exact vF rfl (λ_ _=>by simp[go_sem]) λY b3 hs=>(N Y b3.wds).mono λr Y' ⟨h1,h2,h3⟩=>⟨h1,b3.load h2 h3,h3.weak λk T=>T▸b3.ls.2.1⟩
  case refine_4=>intro a w4 M hf;obtain⟨rfl,bn,bh,O⟩:=hf;obtain⟨hM,O⟩:=O (by simp);simp only[Act.put,vput,vptr];go_wp2;go_meet;exact⟨_,rfl,rfl,hM,O,bh⟩
 case rest=>
  obtain⟨E,rfl,rfl,hE,b2,F⟩:=hcut;have b1:E≠q:=λe=>by rw[e]at hE;omega
  have bs:=b2.cell;clear h0 bf N R D;have z8:=ci tx (F.cell 8);have zf:=F.free;by_cases H:B=true/\S=0
  .replace l:=hd' (λY=>l Y H);obtain⟨rfl,rfl⟩:=H;clear n o J G;go_wp2_with fail;go_returns;exact l _ (F.set 8 _)
  by_cases I:B=true/\S=2
  .replace n:=hd' (λY q3=>n Y q3 I);obtain⟨rfl,rfl⟩:=I;clear l o J H z8 zf;go_upto_region 5 with fail;have hS:=hd' (λ(Y:World) (nx:Int) (v:Value) (h:aA Y q (UA ⟨sp,sc,sm⟩ ⟨U,tn,th,ta,ti,nx,j,i,C⟩ v) 264) (h2:aA Y E #[.int .i64 2,X,e2] 136)=>(⟨h.cell 0,h.cell 1,h.cell 2,h.cell 3,h.cell 6,h2.cell 1⟩:Y.cell? ⟨q,0,.none⟩=some (.int .i64 sp)/\Y.cell? ⟨q,1,.none⟩=some (.int .i64 sc)/\Y.cell? ⟨q,2,.none⟩=some (.int .i64 sm)/\Y.cell? ⟨q,3,.none⟩=some (.int .i64 U)/\Y.cell? ⟨q,6,.none⟩=some (.int .i64 ta)/\Y.cell? ⟨E,1,.none⟩=some (.int .i64 X)))
   go_region_held3 (λY=>Y.cell? ⟨q,0,.none⟩=some (.int .i64 sp)/\Y.cell? ⟨q,1,.none⟩=some (.int .i64 sc)/\Y.cell? ⟨q,2,.none⟩=some (.int .i64 sm)/\Y.cell? ⟨q,3,.none⟩=some (.int .i64 U)/\Y.cell? ⟨q,6,.none⟩=some (.int .i64 ta)/\Y.cell? ⟨E,1,.none⟩=some (.int .i64 X))
    (first|exact hS _ _ _ F.row.drew b2.drew|exact hS _ _ _ Z.row b0|exact hS _ 2 _ ((Z.set 8 _).row.cast rfl) (b0.other b1 _ _)|exact hS _ 2 _ (((Z.set 8 _).set 9 _).row.cast rfl) ((b0.other b1 _ _).other b1 _ _))
    (first|(go_at_call 220;refine(G _).mono ?_;rintro r w6 ⟨q3,rfl,bj,b6,b7⟩;have Z:=F.drew.below b7;have b0:=b2.drew.below b7;have z8:=Z.cell 8;have z9:=Z.cell 9;have zf:=Z.free))
   go_wp2_with fail;go_returns;exact n _ q3 (Nat.le_trans F.only.size bj) ((b6.other (by have:=F.lt;have hd:wc.drew.heap.size=wc.heap.size:=rfl;omega) _ _).other (by have:=F.lt;have hd:wc.drew.heap.size=wc.heap.size:=rfl;omega) _ _) ((Z.set 8 _).set 9 _)
  replace o:=hd' (λY=>o Y H I);have b8:B=false\/(B=true/\(S==0)=false/\(S==2)=false):=by
   rcases jB B with h|h
   .exact .inr ⟨h,by simpa[h] using H,by simpa[h] using I⟩
   exact .inl h
  clear H I n l G z8 zf;rcases b8 with rfl|⟨rfl,b8,bp⟩;all_goals go_wp2_with (go_at_call 224;(with_reducible refine(J _ F.row).mono ?_);rintro r w1 hT;obtain rfl:=hT.ret);go_returns;exact o _ (F.turned hT)
theorem isSome_none{b:Type}{o:Option b}(h:o.isSome=false):o=none:=by cases o<;>simp_all
theorem zuh(q q2 p b:Nat)(s:Sh)(t:Rn)(m:Mem)(w:World)(h:RnAt w q q2 s t)(l:oA w p b m)(hd:t.done=true):
  Calls Tryz.prog 217 #[some q,some p] w λe w'=>tD q q2 p b t.strip.isSome w w' e s (aC s t m).1 (aC s t m).2:=by
 have j:aC s t m=(t,m):=by unfold aC;rw[jP hd]
 rw[j];dsimp only;have n:w.cell? ⟨q,11,.none⟩=some (.bool true):=by rw[<-hd];exact h.row.cell 11
 have i:tD q q2 p b t.strip.isSome w w (.returned (.tuple #[])) s t m:=⟨rfl,⟨q2,h,.inl ⟨rfl,isSome_none⟩⟩,l,Only.refl _ _⟩;replace i:=hd' i;clear h l hd j;go_in;go_wp2_with fail;go_returns;exact i.out
theorem zyl(q q2 p b:Nat)(s:Sh)(t:Rn)(m:Mem)(w:World)(h:RnAt w q q2 s t)(hw:oA w p b m)(bs:q≠p)(bq:q≠b)(bp:t.strip≠none->q2≠p/\q2≠b)(hf:Fits s m)(ho:rnOk s t)(hs:m.st<1000000000):
  Calls Tryz.prog 217 #[some q,some p] w λe w'=>tD q q2 p b t.strip.isSome w w' e s (aC s t m).1 (aC s t m).2:=by
 rcases jB t.done with hd|hd
 .exact zuh q q2 p b s t m w h hw hd
 obtain⟨c1,c2,c3,c4,c5,c6,c7,c8,c9,S⟩:=ho.cl hd;have bb:=hf.bd;have h0:At3 q p b w w (UA s t (MB t.strip q2)) 264 m:=At3.start h.row hw bs bq;have C:Hid (∀Y (t':Rn) m',t'.strip=t.strip->At3 q p b w Y (UA s t' (MB t.strip q2)) 264 m'->tD q q2 p b t.strip.isSome w Y (.returned (.tuple #[])) s t' m'):=hd' λY t' m' e l=>tD.ZI h bp (by rw[e];exact l) e;obtain⟨r,B⟩:∃r,r=aC s t m:=⟨_,rfl⟩;rw[<-B];unfold aC at B;rw[jN (by rw[hd];decide)]at B;dsimp only at B;by_cases n0:t.next=0
 .rw[jP n0]at B;have D:r=(nI s t m,m.load t.c (s.c+t.at')):=by rw[B,<- (hf.page (x:=t.at') (by have:=c6 (by omega);omega)).1];rfl
  subst D;dsimp only;have cj:=hd' (zxl q q2 p b s t m w h hw bs bq bp hf hs (by have:=c6 (by omega);omega) (by omega));have b1:w.cell? ⟨q,11,.none⟩=some (.bool false):=by rw[<-hd];exact h.row.cell 11
  have c8:w.cell? ⟨q,8,.none⟩=some (.int .i64 0):=by rw[<-n0];exact h.row.cell 8
  generalize nI s t m=t2 at*;clear B C h0 bb c1 c2 c3 c4 c5 c6 c7 c9 S ho hf h hw n0 hd;go_in;go_wp2_with (go_at_call 221;(with_reducible refine cj.out.mono ?_);rintro r w1 hS;obtain rfl:=hS.ret);go_returns;exact hS
 rw[jN n0]at B;have n:(t.miss s).strip=t.strip:=by unfold Rn.miss Rn.gone;split<;>rfl
 have o:t.own.strip=t.strip:=by unfold Rn.own Rn.written;split<;>(try split)<;>rfl
 by_cases n1:t.next=1
 .rw[jP n1]at B;have c6:=c6 (by omega);obtain⟨X,bf⟩:=hf.page (x:=t.at') (by omega);have T:=λY=>JB s.p s.c s.m t.at' Y;rw[X]at T B;have b8:=λY=>WF 1 t.c 0 Y;have cb:Hid (WC t.c=QA 1 t.c 0):=hd' rfl;rw[<-cb]at b8;have bg:=λY (J:oA Y p b m)=>WH p b m t.c (s.c+t.at') 0 (WC t.c) Y J bf (sF _ _ _) hs;have L:=λY (J:aA Y q (UA s t (MB t.strip q2)) 264)=>zW q s t (MB t.strip q2) Y J (by omega) (by omega) (by omega);have F:=λY (J:aA Y q (UA s t (MB t.strip q2)) 264)=>AP q s t (MB t.strip q2) Y J (by omega) (by omega) (by omega);generalize s.c+t.at'=pa at*;generalize WC t.c=hw at*;obtain⟨g,hg,bw⟩:∃g,Hid (g=decide (m.get pa=0))/\g=decide (m.get pa=0):=⟨_,hd' rfl,rfl⟩;rw[<-bw]at bg;have j:Hid (∀Y,At3 q p b w Y (UA s (if g=true then t.own else t.miss s) (MB t.strip q2)) 264 (m.swap t.c pa 0 hw)->tD q q2 p b t.strip.isSome w Y (.returned (.tuple #[])) s r.1 r.2):=hd' λY l=>by
   rw[B];have e:(if m.get pa=0 then t.own else t.miss s)=(if g=true then t.own else t.miss s):=by rw[bw];by_cases hz:m.get pa=0<;>simp[hz]
   dsimp only;rw[e];refine C Y _ _ ?_ l;split<;>assumption
  clear B C bb c1 c2 c3 c4 c5 c6 c7 c8 c9 S ho hf h X bf cb bw hg n o n0;generalize t.own=tO at*;generalize t.miss s=tM at*;generalize MB t.strip q2=sv at*;generalize t.strip.isSome=has at*;obtain⟨tc,tn,th,ta,ti,tx,R,O,b7⟩:=t;obtain⟨sp,sc,sm⟩:=s;dsimp only at hd n1 T bg L F j|-;subst hd n1;replace T:=hd' T;replace b8:=hd' b8;replace bg:=hd' bg;replace L:=hd' L;replace F:=hd' F;have lq:=h0.lt;obtain⟨c0,c1,c2,c3⟩:=ci4 sp sc sm tc h0.cell;have c6:=ci ta (h0.cell 6);have c8:=ci 1 (h0.cell 8);have b1:=ce (.bool false) (h0.cell 11);go_in;go_upto_region 5 with fail;clear c8 b1;refine wret 20 ?_;repeat (go_big_quiet_step ((first|(go_at_call 112;exact AA (T _))|(go_at_call 139;exact AA (b8 _)))))
  refine wqn λZ bh=>?_;have hZ:=h0.below bh;clear c0 c1 c2 c3 c6 h0 lq;cases g
  .go_wp2_with (first|(go_at_call 222;(with_reducible refine(bg _ hZ.wds).mono ?_);rintro r w2 ⟨rfl,b6,b5⟩;have l:=hZ.access b6 b5)|(go_at_call 224;(with_reducible refine(F _ l.row).mono ?_);rintro r w3 H;obtain rfl:=H.ret));go_returns;exact j _ (l.turned H)
  go_wp2_with (first|(go_at_call 222;(with_reducible refine(bg _ hZ.wds).mono ?_);rintro r w2 ⟨rfl,b6,b5⟩;have l:=hZ.access b6 b5)|(go_at_call 223;(with_reducible refine(L _ l.row).mono ?_);rintro r w3 H;obtain rfl:=H.ret));go_returns;exact j _ (l.turned H)
 rw[jN n1]at B;by_cases n2:t.next=2
 .rw[jP n2]at B;have c6:=c6 (by omega);obtain⟨x,hx,ch,ck⟩:=c7 n2;rw[hx]at B;dsimp only at B;obtain⟨cc,bc⟩:=h.inn x hx;have bx:=bp (by rw[hx];exact λe=>by cases e);have E:=LV q2 p b s x m w cc hw bx.1 bx.2 hf ch hs;have M:=h.row;rw[hx]at M h0;have ba:Hid (∀Y e,Stepped q2 p b w Y e (IC s (SC s x m).1) 292 (SC s x m).2->At1 q Y Y (UA s t (.pointer (some ⟨q2,0,.none⟩))) 264):=hd' λY e hS=>At1.start (M.only hS.only (by rintro(e|e|e);exact bc e;exact bs e;exact bq e));generalize SC s x m=ym at*;obtain⟨y,m2⟩:=ym;dsimp only at E B ba;have F:=λY (J:aA Y q (UA s t (.pointer (some ⟨q2,0,.none⟩))) 264)=>AP q s t (.pointer (some ⟨q2,0,.none⟩)) Y J (by omega) (by omega) (by omega);have b4:=λY (J:aA Y q2 (IC s y) 292)=>PV q2 (IC s y) y.held Y J rfl;have b3:=λY (J:aA Y q2 (IC s y) 292)=>vV q2 (IC s y) y.done Y J rfl;have bi:Hid (∀Y e Z (t':Rn),Stepped q2 p b w Y e (IC s y) 292 m2->t'.strip=some y->At1 q Y Z (UA s t' (.pointer (some ⟨q2,0,.none⟩))) 264->tD q q2 p b t.strip.isSome w Z (.returned (.tuple #[])) s t' m2):=hd' λY e Z t' hS e2 l=>by
   refine⟨rfl,⟨q2,⟨by rw[e2];exact l.row,λz hz=>?_⟩,.inl ⟨rfl,λe=>by rw[hx]at e;cases e⟩⟩,hS.wds.only l.only (λe=>bs e.symm) (λe=>bq e.symm),?_⟩
   .rw[e2]at hz;obtain rfl:=Option.some.inj hz;exact⟨hS.row.only l.only (λe=>bc e.symm),bc⟩
   refine(hS.only.weak (G:=λk=>k=q\/(t.strip.isSome=true/\k=q2)\/k=p\/k=b) λk e=>?_).trans l.only (λ_ _ e=>.inl e);rcases e with e|e|e
   .exact .inr (.inl ⟨by rw[hx];rfl,e⟩)
   .exact .inr (.inr (.inl e))
   exact .inr (.inr (.inr e))
  have b9:({t with strip:=some y}:Rn).miss s={t.miss s with strip:=some y}:=by unfold Rn.miss Rn.gone;dsimp only;split<;>rfl
  rw[b9]at B;have b1:w.cell? ⟨q,11,.none⟩=some (.bool false):=by rw[<-hd];exact h.row.cell 11
  have c8:w.cell? ⟨q,8,.none⟩=some (.int .i64 2):=by rw[<-n2];exact h.row.cell 8
  have c9:=ce (.pointer (some ⟨q2,0,.none⟩)) (M.cell 9);have bj:Hid (∀Y Z e,aA Y q (UA s t (.pointer (some ⟨q2,0,.none⟩))) 264->Turned q Y Z e (UA s (t.miss s) (.pointer (some ⟨q2,0,.none⟩))) 264->At1 q Y Z (UA s {t.miss s with strip:=some y} (.pointer (some ⟨q2,0,.none⟩))) 264):=hd' λY Z e h1 H=>⟨H.row,H.only,h1.lt⟩;replace E:=hd' E;replace F:=hd' F;replace b4:=hd' b4;replace b3:=hd' b3;have lq:=h.row.lt;clear C h0 bb c1 c2 c3 c4 c5 c6 c7 S ho hf h hw n0 n1 n o cc ch ck b9 M bx bp;obtain⟨r1,bz⟩:∃r1,r1=r.1:=⟨_,rfl⟩;have cd:r.2=m2:=by rw[B]
  rw[<-bz,cd];have D:r1=if y.held=true then {t with strip:=some y,next:=3,i:=0} else if y.done=true then {t.miss s with strip:=some y} else {t with strip:=some y}:=by rw[bz,B]
  clear B bz cd;rcases jB y.held with hh|hh
  .rw[jP hh]at D;replace D:=hd' D;rw[hh]at b4;clear F b3 bj hd n2;have bv:Hid (∀Y,At1 q Y Y (UA s t (.pointer (some ⟨q2,0,.none⟩))) 264->Y.cell? ⟨q,7,.none⟩=some (.int .i64 t.i)/\Y.cell? ⟨q,8,.none⟩=some (.int .i64 t.next)):=hd' λY l=>⟨l.cell 7,l.cell 8⟩;go_in;go_wp2_with (first|(go_at_call 225;(with_reducible refine E.out.mono ?_);rintro r w2 hS;obtain rfl:=hS.ret;have l:=ba _ _ hS;have cm:=l.cell;obtain⟨z7,z8⟩:=bv _ l;have zf:=l.free)|(go_at_call 183;(with_reducible refine(b4 _ hS.row).mono ?_);rintro r w3 ⟨rfl,bk⟩;obtain rfl:=bk.symm));go_returns;rw[D];exact bi _ _ _ _ hS rfl ((l.set 8 _).set 7 _)
  rw[jN (by rw[hh];decide)]at D;rw[hh]at b4;rcases jB y.done with bm|bm
  .rw[jP bm]at D;rw[bm]at b3;replace D:=hd' D;clear hd n2;go_in;go_wp2_with (first|(go_at_call 225;(with_reducible refine E.out.mono ?_);rintro r w2 hS;obtain rfl:=hS.ret;have l:=ba _ _ hS;have cp:=l.cell)|(go_at_call 183;(with_reducible refine(b4 _ hS.row).mono ?_);rintro r w3 ⟨rfl,bk⟩;obtain rfl:=bk.symm)|(go_at_call 226;(with_reducible refine(b3 _ hS.row).mono ?_);rintro r w4 ⟨rfl,ca⟩;obtain rfl:=ca.symm)|(go_at_call 224;(with_reducible refine(F _ l.row).mono ?_);rintro r w5 H;obtain rfl:=H.ret));go_returns;rw[D];exact bi _ _ _ _ hS rfl (bj _ _ _ l.row H)
  rw[jN (by rw[bm];decide)]at D;rw[bm]at b3;replace D:=hd' D;clear hd n2 F bj;go_in;go_wp2_with (first|(go_at_call 225;(with_reducible refine E.out.mono ?_);rintro r w2 hS;obtain rfl:=hS.ret;have l:=ba _ _ hS;have cq:=l.cell)|(go_at_call 183;(with_reducible refine(b4 _ hS.row).mono ?_);rintro r w3 ⟨rfl,bk⟩;obtain rfl:=bk.symm)|(go_at_call 226;(with_reducible refine(b3 _ hS.row).mono ?_);rintro r w4 ⟨rfl,ca⟩;obtain rfl:=ca.symm));go_returns;rw[D];exact bi _ _ _ _ hS rfl ⟨l.row,l.only,l.ls⟩
 rw[jN n2]at B;by_cases n3:t.next=3
 .rw[jP n3]at B;have c6:=c6 (by omega);have c8:=c8 n3;obtain⟨cg,cf⟩:=hf.slot (x:=t.at') (i:=t.i) (by omega) c8;have U:=λY=>uE s.p s.c s.m t.at' t.i Y;rw[cg]at U B;have E:=λY (J:oA Y p b m)=>tC p b m t.c (s.c+s.p+t.at'*16+t.i) 0 Y J cf (by decide) hs;have L:=λY (J:aA Y q (UA s {t with i:=t.i+1} (MB t.strip q2)) 264)=>zW q s {t with i:=t.i+1} (MB t.strip q2) Y J (by dsimp only;omega) (by dsimp only;omega) (by dsimp only;omega);have I:({t with i:=t.i+1}:Rn).own.strip=t.strip:=by unfold Rn.own Rn.written;dsimp only;split<;>(try split)<;>rfl
  have b2:t.i+1=16\/(¬t.i+1=16/\(t.i+1==16)=false):=by
   by_cases h:t.i+1=16
   .exact .inl h
   exact .inr ⟨h,by simpa using h⟩
  have w1:=wrp (t.i+1);generalize s.c+s.p+t.at'*16+t.i=sa at*;have j:Hid (∀Y,At3 q p b w Y (UA s (if t.i+1=16 then({t with i:=t.i+1}:Rn).own else {t with i:=t.i+1}) (MB t.strip q2)) 264 (m.store t.c sa 0)->tD q q2 p b t.strip.isSome w Y (.returned (.tuple #[])) s r.1 r.2):=hd' λY l=>by
   rw[B];refine C Y _ _ ?_ l;dsimp only;split
   .exact I
   rfl
  clear B C bb c1 c2 c3 c4 c5 c6 c7 c8 c9 S ho hf h cg cf n o I n0 n1 n2;generalize ({t with i:=t.i+1}:Rn).own=tO at*;generalize MB t.strip q2=sv at*;generalize t.strip.isSome=has at*;obtain⟨tc,tn,th,ta,ti,tx,R,O,b7⟩:=t;obtain⟨sp,sc,sm⟩:=s;dsimp only at hd n3 U E L j w1 b2|-;subst hd n3;replace U:=hd' U;replace E:=hd' E;replace L:=hd' L;have lq:=h0.lt;obtain⟨c0,c1,c2,c3⟩:=ci4 sp sc sm tc h0.cell;have c6:=ci ta (h0.cell 6);have c7:=ci ti (h0.cell 7);have c8:=ci 3 (h0.cell 8);have b1:=ce (.bool false) (h0.cell 11);go_in;go_upto_region 15 with fail;clear c8 b1;refine wret 18 ?_;repeat (go_big_quiet_step (((go_at_call 114;exact AA (U _)))))
  refine wqn λZ bh=>?_;have hZ:=h0.below bh;clear c0 c1 c2 c3 c6 c7 h0 lq;rcases b2 with b2|⟨bc,b2⟩
  .rw[jP b2]at j;have hb:(ti+1==16)=true:=by simpa using b2
   clear b2;go_wp2_with (first|(go_at_call 218;(with_reducible refine(E _ hZ.wds).mono ?_);rintro r w2 ⟨rfl,b6,b5⟩;have l:=hZ.access b6 b5;have z7:=ci ti (l.cell 7);have zf:=l.free;have hB:=l.set 7 (.int .i64 (ti+1)))|(go_at_call 223;(with_reducible refine(L _ (hB.row.cast rfl)).mono ?_);rintro r w3 H;obtain rfl:=H.ret));go_returns;exact j _ (hB.turned H)
  rw[jN bc]at j;clear bc;go_wp2_with (first|(go_at_call 218;(with_reducible refine(E _ hZ.wds).mono ?_);rintro r w2 ⟨rfl,b6,b5⟩;have l:=hZ.access b6 b5;have z7:=ci ti (l.cell 7);have zf:=l.free));go_returns;exact j _ (l.set 7 _)
 rw[jN n3]at B;by_cases n4:t.next=4
 .rw[jP n4]at B;have c6:=c6 (by omega);have c9:=c9 n4;obtain⟨X,bf⟩:=hf.page (x:=t.i-1) (by omega);rw[X]at B;have N:=λW (l:At3 q p b w W (UA s t (MB t.strip q2)) 264 m)=>qW q p b s t (MB t.strip q2) (t.i-1) 0 0 0 m w W l hf (by omega) hs;have bn:=λY (J:aA Y q (UA s {t with i:=t.i-1} (MB t.strip q2)) 264)=>DV q s {t with i:=t.i-1} (MB t.strip q2) Y J (by dsimp only;omega) (by omega) (by dsimp only;omega);have V:(({t with i:=t.i-1}:Rn).gone s).strip=t.strip:=by unfold Rn.gone;dsimp only;split<;>rfl
  have w1:=wrp (t.i-1);generalize s.c+(t.i-1)=pa at*;have j:Hid (∀Y,At3 q p b w Y (UA s (({t with i:=t.i-1}:Rn).gone s) (MB t.strip q2)) 264 (m.store t.c pa (QA 0 0 0))->tD q q2 p b t.strip.isSome w Y (.returned (.tuple #[])) s r.1 r.2):=hd' λY l=>by rw[B];exact C Y _ _ V l
  clear B C bb c1 c2 c3 c4 c5 c6 c7 c8 c9 S ho hf h X bf n o V n0 n1 n2 n3;generalize ({t with i:=t.i-1}:Rn).gone s=tG at*;generalize MB t.strip q2=sv at*;generalize t.strip.isSome=has at*;generalize QA 0 0 0=pv at*;obtain⟨tc,tn,th,ta,ti,tx,R,O,b7⟩:=t;obtain⟨sp,sc,sm⟩:=s;dsimp only at hd n4 N bn j w1|-;subst hd n4;replace N:=hd' N;replace bn:=hd' bn;have lq:=h0.lt;have c7:=ci ti (h0.cell 7);have c8:=ci 4 (h0.cell 8);have b1:=ce (.bool false) (h0.cell 11);go_in;go_wp2_with (first|(go_at_call 227;(with_reducible refine(N _ h0).mono ?_);rintro r w2 ⟨rfl,l⟩;have z7:=ci ti (l.cell 7);have zf:=l.free;have hB:=l.set 7 (.int .i64 (ti-1)))|(go_at_call 228;(with_reducible refine(bn _ (hB.row.cast rfl)).mono ?_);rintro r w3 H;obtain rfl:=H.ret));go_returns;exact j _ (hB.turned H)
 rw[jN n4]at B;have n5:t.next=5:=by omega
 have S:=S n5;obtain⟨X,bf⟩:=hf.page (x:=t.i) (by omega);rw[X]at B;have N:=λW (l:At3 q p b w W (UA s t (MB t.strip q2)) 264 m)=>qW q p b s t (MB t.strip q2) t.i 4 t.head 0 m w W l hf (by omega) hs;have bu:=λY (J:aA Y q (UA s t (MB t.strip q2)) 264)=>BU q s t (MB t.strip q2) Y J (by omega) (by omega) (by omega);have b0:t.written.strip=t.strip:=by unfold Rn.written;split<;>rfl
 generalize s.c+t.i=pa at*;have j:Hid (∀Y,At3 q p b w Y (UA s t.written (MB t.strip q2)) 264 (m.store t.c pa (QA 4 t.head 0))->tD q q2 p b t.strip.isSome w Y (.returned (.tuple #[])) s r.1 r.2):=hd' λY l=>by rw[B];exact C Y _ _ b0 l
 clear B C bb c1 c2 c3 c4 c5 c6 c7 c8 c9 S ho hf h X bf n o b0 n0 n1 n2 n3 n4;generalize t.written=tW at*;generalize MB t.strip q2=sv at*;generalize t.strip.isSome=has at*;generalize QA 4 t.head 0=pv at*;obtain⟨tc,tn,th,ta,ti,tx,R,O,b7⟩:=t;obtain⟨sp,sc,sm⟩:=s;dsimp only at hd n5 N bu j|-;subst hd n5;replace N:=hd' N;replace bu:=hd' bu;have lq:=h0.lt;have c5:=ci th (h0.cell 5);have c7:=ci ti (h0.cell 7);have c8:=ci 5 (h0.cell 8);have b1:=ce (.bool false) (h0.cell 11);go_in;go_upto_region 24 with fail;refine wret 11 ?_;repeat (go_big_quiet_step (fail))
 refine wqn λZ bh=>?_;have hZ:=h0.below bh;go_wp2_with (first|(go_at_call 227;(with_reducible refine(N _ hZ).mono ?_);rintro r w2 ⟨rfl,l⟩)|(go_at_call 229;(with_reducible refine(bu _ l.row).mono ?_);rintro r w3 H;obtain rfl:=H.ret));go_returns;exact j _ (l.turned H)
end Go.Proofs.YtkilokkopbajkaaGreat
