/- Texts bound together: RenW RenX RenF RenS RenT. -/
import Derived.Test.YtkbddndcegpllaaGreatBg21

set_option linter.all false
set_option maxHeartbeats 4000000
set_option maxRecDepth 100000
namespace Go.Proofs.YtkbddndcegpllaaGreat

section

open Go.RowKit

attribute [local go_sem ↓] Go.wp_at_zero Go.wp_at_succ

def zby (s:Sh) (t:Rr) (v1 v2 v3 v4:Value):Array Value:= #[.int .i64 s.p,.int .i64 s.c,.int .i64 s.m,.int .i64 t.c,v1,v2,v3,v4,.int .i64 t.err,.bool t.done]
def FeO (F:Nat->Prop) (w:World) (q:Nat) (s:Sh) (t:Fe):Prop:=F q/\∃ q2,FeAt w q q2 s t/\(t.put≠none->F q2)
theorem FeAt.znz{w w':World}{q q2:Nat}{s:Sh}{t:Fe}{G:Nat->Prop}(h:FeAt w q q2 s t)(f:Only G w w')(i:¬ G q)(j:t.put≠none->¬ G q2):FeAt w' q q2 s t:=
 ⟨h.row.only f i,fun x b=>⟨(h.inn x b).1.only f (j (by rw[b];exact fun e=>by cases e)),(h.inn x b).2⟩⟩
theorem FeO.only{F G:Nat->Prop}{w w':World}{q:Nat}{s:Sh}{t:Fe}(h:FeO F w q s t)(j:Only G w w')(hd:∀ k,F k->¬ G k):FeO F w' q s t:=by
 obtain⟨b,q2,i,f⟩:=h;exact⟨b,q2,i.znz j (hd q b) (fun e=>hd q2 (f e)),f⟩
theorem zw0{F:Nat->Prop}{q p b:Nat}{s:Sh}{t:Fe}{m:Mem}{w:World}(h:FeO F w q s t)(G:zaq w p b m)(z:¬ F p)(hb:¬ F b)(D:Fits s m)(E:feOk s t)(hs:m.st<1000000000):
  Calls Tryz.prog 271 #[.pointer (some ⟨q,0,.none⟩),.pointer (some ⟨p,0,.none⟩)] w fun e w'=>zef F p b w w' e (zca s t m).2/\FeO (grow F w w') w' q s (zca s t m).1:=by
 obtain⟨o,q2,C,r⟩:=h;refine(zyu q q2 p b s t m w C G (fun e=>z (e ▸ o)) (fun e=>hb (e ▸ o)) (fun l=>⟨fun e=>z (e ▸ r l),fun e=>hb (e ▸ r l)⟩) D E hs).mono fun e w' hS=>?_;have l:t.put.isSome=true->F q2:=fun e=>r (fun B=>by rw[B]at e;cases e);obtain⟨q3,y,i⟩:=hS.at';refine⟨⟨hS.ret,hS.wds,hS.only.weak fun k j=>?_⟩,.inl o,q3,y,fun n=>?_⟩
 ·rcases j with rfl|⟨e,rfl⟩|j|j
  ·exact .inl o
  ·exact .inl (l e)
  ·exact .inr (.inl j)
  exact .inr (.inr j)
 rcases i with⟨rfl,i⟩|i
 ·cases hi:t.put.isSome
  ·exact absurd (i hi) n
  exact .inl (l hi)
 rcases hq:(zca s t m).1.put with _|x
 ·exact absurd hq n
 exact .inr ⟨i,(y.inn x hq).1.lt⟩
theorem zzc(q:Nat)(cs:Array Value)(v:Bool)(w:World)(h:zaa w q cs 279)(b:cs[9]?=some (.bool v)):Calls Tryz.prog 283 #[.pointer (some ⟨q,0,.none⟩)] w fun e w'=>e= .returned (.bool v)/\w'=w:=by
 have c:=(h.cell 9).trans b;clear h b;go_in;go_wp2_with fail;go_returns;exact⟨rfl,rfl⟩
theorem zzz(q:Nat)(s:Sh)(t:Rr)(i j l m:Value)(w:World)(b:zaa w q (zby s t i j l m) 279):
  Calls Tryz.prog 289 #[.pointer (some ⟨q,0,.none⟩)] w fun e w'=>e= .returned (.int .i64 t.err)/\w'=w:=by
 have c:=ci t.err (b.cell 8);clear b;go_in;go_wp2_with fail;go_returns;exact⟨rfl,rfl⟩
theorem zsi(q:Nat)(s:Sh)(t:Rr)(r y z B:Value)(x:Int)(w:World)(n:zaa w q (zby s t r y z B) 279):
  Calls Tryz.prog 174 #[.pointer (some ⟨q,0,.none⟩),.int .i64 x] w fun e w'=>Turned q w w' e (zby s {t with err:=x,done:=true} r y z B) 279:=by
 have j:=At1.start n;clear n;obtain⟨sp,E,F⟩:=s;obtain⟨G,p,l,m,o,i,b⟩:=t;have C:=ci i (j.cell 8);have D:=ce (.bool b) (j.cell 9);have H:=j.free;go_in;go_wp2_with fail;go_returns;exact((j.set 8 _).set 9 _).fin rfl
theorem zyg(q q2:Nat)(s:Sh)(t:Rr)(f:Fe)(m n o p:Value)(w:World)(j:zaa w q (zby s t n (.pointer (some ⟨q2,0,.none⟩)) o p) 279)(i:zaa w q2 (za7 s f m) 276):
  Calls Tryz.prog 290 #[.pointer (some ⟨q,0,.none⟩)] w fun e w'=>e= .returned (.bool f.gave)/\w'=w:=by
 have c:=ce (.pointer (some ⟨q2,0,.none⟩)) (j.cell 5);have l:=hd' (zh8 q2 _ f.gave w i rfl);clear j i;go_in;go_wp2_with (go_at_call 194;(with_reducible refine l.out.mono ?_);rintro r y ⟨rfl,b⟩;obtain rfl:=b.symm);go_returns;exact⟨rfl,rfl⟩
theorem zob(q:Nat)(s:Sh)(t:Rr)(l m n:Value)(w:World)(i:zaa w q (zby s t l (.pointer none) m n) 279):
  Calls Tryz.prog 290 #[.pointer (some ⟨q,0,.none⟩)] w fun e w'=>e= .returned (.bool false)/\w'=w:=by
 have c:=ce (.pointer none) (i.cell 5);have j:=hd' (zoc w);clear i;go_in;go_wp2_with (go_at_call 194;(with_reducible refine j.out.mono ?_);rintro r o ⟨rfl,b⟩;obtain rfl:=b.symm);go_returns;exact⟨rfl,rfl⟩
def zev (o:Option Un):Bool:=match o with | some u=> u.done | none=> false
def zha (o:Option Cm):Bool:=match o with | some u=> u.done | none=> false
theorem zcp(s:Sh)(t:Rr)(r:Rs)(f:Fe)(n:t.res=some r)(o:t.free=some f):
  (zev t.undo=true/\t.settle s= {t with err:=1,done:=true})\/(zev t.undo=false/\zha t.com=true/\t.settle s= {t with err:=0,done:=true})\/
  (zev t.undo=false/\zha t.com=false/\r.done=false/\t.settle s=t)\/(zev t.undo=false/\zha t.com=false/\r.done=true/\r.got=none/\t.settle s= {t with err:=3,done:=true})\/
  (∃ b,zev t.undo=false/\zha t.com=false/\r.done=true/\r.got=some b/\(t.undo≠none\/(t.undo=none/\t.com≠none)\/(t.undo=none/\t.com=none/\f.done=false))/\t.settle s=t)\/
  (∃ b,zev t.undo=false/\zha t.com=false/\r.done=true/\r.got=some b/\t.undo=none/\t.com=none/\f.done=true/\f.gave=true/\t.settle s= {t with com:=some (zc4 s t.c b)})\/
  (∃ b,zev t.undo=false/\zha t.com=false/\r.done=true/\r.got=some b/\t.undo=none/\t.com=none/\f.done=true/\f.gave=false/\t.settle s= {t with undo:=some (zf1 s t.c b)}):=by
 obtain⟨y,q,m,i,j,p,l⟩:=t;dsimp only at n o;subst n o;unfold Rr.settle zev zha;dsimp only;rcases i with _|u<;>rcases j with _|v
 ·cases h3:r.done<;>cases h4:r.got<;>cases h5:f.done<;>cases h6:f.gave<;>simp[*]
 ·cases h7:v.done<;>cases h3:r.done<;>cases h4:r.got<;>simp[*]
 ·cases h7:u.done<;>cases h3:r.done<;>cases h4:r.got<;>simp[*]
 cases h8:u.done<;>cases h7:v.done<;>cases h3:r.done<;>cases h4:r.got<;>simp[*]
structure z7c (q q1 q2 q3 q4:Nat) (s:Sh) (t:Rr) (w w':World) (e:Ending):Prop where
 ret:e= .returned (.tuple #[])
 only:Only (fun k=> k=q) w w'
 at':∃ q5 q6,zaa w' q (zby s (t.settle s) (.pointer (some ⟨q1,0,.none⟩)) (.pointer (some ⟨q2,0,.none⟩)) (ptrV (t.settle s).undo q5) (ptrV (t.settle s).com q6)) 279/\
  (((t.settle s).undo=t.undo/\q5=q3)\/(t.undo=none/\w.heap.size<=q5/\∃ x,(t.settle s).undo=some x/\zaa w' q5 (zhm s x) 309))/\
  (((t.settle s).com=t.com/\q6=q4)\/(t.com=none/\w.heap.size<=q6/\∃ x,(t.settle s).com=some x/\zaa w' q6 (ze3 s x) 311))
theorem ztq{F1:Nat->Prop}(q q1 q2 q3 q4:Nat)(s:Sh)(t:Rr)(r:Rs)(f:Fe)(pv:Value)(w:World)(bn:t.res=some r)(b8:t.free=some f)
  (hq:zaa w q (zby s t (.pointer (some ⟨q1,0,.none⟩)) (.pointer (some ⟨q2,0,.none⟩)) (ptrV t.undo q3) (ptrV t.com q4)) 279) (hr:RsO F1 w q1 s r) (hf:zaa w q2 (za7 s f pv) 276)
  (hu:∀ x,t.undo=some x->zaa w q3 (zhm s x) 309) (hc:∀ x,t.com=some x->zaa w q4 (ze3 s x) 311):
  Calls Tryz.prog 175 #[.pointer (some ⟨q,0,.none⟩)] w fun e w'=>z7c q q1 q2 q3 q4 s t w w' e:=by
 have h0:=At1.start hq;clear hq;have D:=zcp s t r f bn b8;have o:Hid (∀ Y (t':Rr),t.settle s=t'->t'.undo=t.undo->t'.com=t.com->At1 q w Y (zby s t' (.pointer (some ⟨q1,0,.none⟩)) (.pointer (some ⟨q2,0,.none⟩)) (ptrV t.undo q3) (ptrV t.com q4)) 279->z7c q q1 q2 q3 q4 s t w Y (.returned (.tuple #[]))):=hd' fun Y t' U e2 e3 hA=>⟨rfl,hA.only,q3,q4,by rw[U,e2,e3];exact hA.row,.inl ⟨by rw[U,e2],rfl⟩,.inl ⟨by rw[U,e3],rfl⟩⟩
 have L:Hid (∀ Y q6 (x:Cm),t.settle s= {t with com:=some x}->t.com=none->w.heap.size<=q6->zaa Y q6 (ze3 s x) 311->At1 q w Y (zby s t (.pointer (some ⟨q1,0,.none⟩)) (.pointer (some ⟨q2,0,.none⟩)) (ptrV t.undo q3) (.pointer (some ⟨q6,0,.none⟩))) 279->z7c q q1 q2 q3 q4 s t w Y (.returned (.tuple #[]))):=hd' fun Y q6 x U e2 h6 hx hA=>⟨rfl,hA.only,q3,q6,by rw[U];exact hA.row,.inl ⟨by rw[U],rfl⟩,.inr ⟨e2,h6,x,by rw[U],hx⟩⟩
 have M:Hid (∀ Y q5 (x:Un),t.settle s= {t with undo:=some x}->t.undo=none->w.heap.size<=q5->zaa Y q5 (zhm s x) 309->At1 q w Y (zby s t (.pointer (some ⟨q1,0,.none⟩)) (.pointer (some ⟨q2,0,.none⟩)) (.pointer (some ⟨q5,0,.none⟩)) (ptrV t.com q4)) 279->z7c q q1 q2 q3 q4 s t w Y (.returned (.tuple #[]))):=hd' fun Y q5 x U e2 h5 hx hA=>⟨rfl,hA.only,q5,q4,by rw[U];exact hA.row,.inr ⟨e2,h5,x,by rw[U],hx⟩,.inl ⟨by rw[U],rfl⟩⟩
 have b2:=hd' (zei hr);have bj:=fun Y (hY:Below w.heap.size w Y)=>zil (hr.only (Only.of_below (F:=fun _=>False) hY) (fun _ _ e=>e));have bh:=fun Y (hY:Below w.heap.size w Y)=>zkw q2 _ f.done Y (hf.below hY) rfl;have bi:=fun Y (hY:Below w.heap.size w Y)=>zh8 q2 _ f.gave Y (hf.below hY) rfl;have b3:∀ Y,Below w.heap.size w Y->Calls Tryz.prog 190 #[ptrV t.undo q3] Y fun e w'=>e= .returned (.bool (zev t.undo))/\w'=Y:=fun Y hY=>by
  rcases h:t.undo with _|u
  ·exact zof Y
  exact zx6 q3 _ u.done Y ((hu u h).below hY) rfl
 have b1:∀ Y,Below w.heap.size w Y->Calls Tryz.prog 191 #[ptrV t.com q4] Y fun e w'=>e= .returned (.bool (zha t.com))/\w'=Y:=fun Y hY=>by
  rcases h:t.com with _|u
  ·exact zi5 Y
  exact zo9 q4 _ u.done Y ((hc u h).below hY) rfl
 have y:=fun x Y (hY:zaa Y q (zby s t (.pointer (some ⟨q1,0,.none⟩)) (.pointer (some ⟨q2,0,.none⟩)) (ptrV t.undo q3) (ptrV t.com q4)) 279)=>zsi q s t _ _ _ _ x Y hY;have G:=fun b W=>ztm s t.c b W;have H:=fun b W=>z3q s t.c b W;clear hr hf hu hc bn b8;generalize r.done=rd at *;generalize f.done=fd at *;generalize f.gave=fg at *;unfold gotV at b2;generalize cb:r.got=og at *;obtain⟨sp,sc,sm⟩:=s;obtain⟨tc,bq,bf,I,T,bp,bc⟩:=t;dsimp only at D b3 b1 y o L M G H;obtain⟨vu,S⟩:∃ v,v=ptrV I q3:=⟨_,rfl⟩;obtain⟨vc,b0⟩:∃ v,v=ptrV T q4:=⟨_,rfl⟩;rw[<-S]at h0 o L b3 y;rw[<-b0]at h0 o M b1 y;replace S:=hd' S;replace b0:=hd' b0;generalize zev I=ud at *;generalize zha T=cd at *;obtain⟨blk,R⟩:∃ b,b=og.getD Blk.zero:=⟨_,rfl⟩;rw[<-R]at b2;obtain⟨bb,z⟩:∃ b,b=og.isSome:=⟨_,rfl⟩;rw[<-z]at b2;replace z:=hd' z;replace R:=hd' R;obtain⟨i,l,m,bk,j⟩:=blk;dsimp only[zg0]at b2;replace bj:=hd' bj;replace bh:=hd' bh;replace bi:=hd' bi;replace b3:=hd' b3;replace b1:=hd' b1;replace y:=hd' y;replace G:=hd' G;replace H:=hd' H;replace D:=hd' D;have c4:=ce (.pointer (some ⟨q1,0,.none⟩)) (h0.cell 4);go_in;go_upto_region 2 with(go_at_call 189;(with_reducible refine b2.out.mono ?_);rintro r w1 ⟨rfl,bg⟩);have J:=bg.trans ((Below.refl w.heap.size w1).alloc bg.size (.cells #[.bool i,.int .i64 l,.int .i64 m,.int .i64 bk,.int .i64 j] 264));have hE:zaa (w1.alloc (.cells #[.bool i,.int .i64 l,.int .i64 m,.int .i64 bk,.int .i64 j] 264)) w1.heap.size #[.bool i,.int .i64 l,.int .i64 m,.int .i64 bk,.int .i64 j] 264:=heap_alloc_new _ _;have ca:w.heap.size<=w1.heap.size:=bg.size;generalize w1.alloc (.cells #[.bool i,.int .i64 l,.int .i64 m,.int .i64 bk,.int .i64 j] 264)=X at *;obtain⟨E,c9,bm⟩:=hidv w1.heap.size;simp only[<-bm]at hE ca ⊢;have c8:E≠q:=fun e=>by have:=h0.lt;omega
 clear bm c9 c4 b2 bg;have C:=h0.below J;have lX:=C.lt;have lE:=hE.lt;have c4:=ce (.pointer (some ⟨q1,0,.none⟩)) (C.cell 4);have c5:=ce (.pointer (some ⟨q2,0,.none⟩)) (C.cell 5);have c6:=ce (vu) (C.cell 6);have c7:=ce (vc) (C.cell 7);replace J:=hd' J;have N:=hd' (b3.out X J.out);have O:=hd' (b1.out X J.out);have V:=hd' (bj.out X J.out);have bs:=hd' (bh.out X J.out);have bz:=hd' (bi.out X J.out);clear b3 b1 bj bh bi;rcases D.out with⟨rfl,hs⟩|⟨rfl,rfl,hs⟩|⟨rfl,rfl,rfl,hs⟩|⟨rfl,rfl,rfl,rfl,hs⟩|⟨b,rfl,rfl,rfl,rfl,hw,hs⟩|⟨b,rfl,rfl,rfl,rfl,U,e2,rfl,rfl,hs⟩|⟨b,rfl,rfl,rfl,rfl,U,e2,rfl,rfl,hs⟩;case inl=>clear D G H L M;replace hs:=hd' hs;go_wp2_with (first|(go_at_call 190;(with_reducible refine N.out.mono ?_);rintro r w2 ⟨rfl,n⟩;obtain rfl:=n.symm)|(go_at_call 174;(with_reducible refine(y.out _ _ C.row).mono ?_);rintro r w7 hT;obtain rfl:=hT.ret));go_returns;exact o.out _ _ hs.out rfl rfl (C.turned hT)
 case inr.inl=>clear D G H L M;replace hs:=hd' hs;go_wp2_with (first|(go_at_call 190;(with_reducible refine N.out.mono ?_);rintro r w2 ⟨rfl,n⟩;obtain rfl:=n.symm)|(go_at_call 191;(with_reducible refine O.out.mono ?_);rintro r w3 ⟨rfl,p⟩;obtain rfl:=p.symm)|(go_at_call 174;(with_reducible refine(y.out _ _ C.row).mono ?_);rintro r w7 hT;obtain rfl:=hT.ret));go_returns;exact o.out _ _ hs.out rfl rfl (C.turned hT)
 case inr.inr.inl=>clear D G H L M;replace hs:=hd' hs;go_wp2_with (first|(go_at_call 190;(with_reducible refine N.out.mono ?_);rintro r w2 ⟨rfl,n⟩;obtain rfl:=n.symm)|(go_at_call 191;(with_reducible refine O.out.mono ?_);rintro r w3 ⟨rfl,p⟩;obtain rfl:=p.symm)|(go_at_call 192;(with_reducible refine V.out.mono ?_);rintro r w4 ⟨rfl,B⟩;obtain rfl:=B.symm));go_returns;exact o.out _ _ hs.out rfl rfl C
 case inr.inr.inr.inl=>clear D G H L M;replace hs:=hd' hs;replace z:Hid (bb=false):=hd' z.out;obtain rfl:bb=false:=z.out;go_wp2_with (first|(go_at_call 190;(with_reducible refine N.out.mono ?_);rintro r w2 ⟨rfl,n⟩;obtain rfl:=n.symm)|(go_at_call 191;(with_reducible refine O.out.mono ?_);rintro r w3 ⟨rfl,p⟩;obtain rfl:=p.symm)|(go_at_call 192;(with_reducible refine V.out.mono ?_);rintro r w4 ⟨rfl,B⟩;obtain rfl:=B.symm)|(go_at_call 174;(with_reducible refine(y.out _ _ C.row).mono ?_);rintro r w7 hT;obtain rfl:=hT.ret));go_returns;exact o.out _ _ hs.out rfl rfl (C.turned hT)
 case inr.inr.inr.inr.inl=>
  clear D G H L M;replace hs:=hd' hs;obtain rfl:bb=true:=z.out;rcases hw with hw|⟨bw,n⟩|⟨bw,n,p⟩
  ·obtain rfl:vu= .pointer (some ⟨q3,0,.none⟩):=by
    rcases I with _|u
    ·exact absurd rfl hw
    exact S.out
   go_wp2_with (first|(go_at_call 190;(with_reducible refine N.out.mono ?_);rintro r w2 ⟨rfl,n⟩;obtain rfl:=n.symm)|(go_at_call 191;(with_reducible refine O.out.mono ?_);rintro r w3 ⟨rfl,p⟩;obtain rfl:=p.symm)|(go_at_call 192;(with_reducible refine V.out.mono ?_);rintro r w4 ⟨rfl,B⟩;obtain rfl:=B.symm));go_returns;exact o.out _ _ hs.out rfl rfl C
  ·obtain rfl:vu= .pointer none:=by rw[S.out,bw];rfl
   obtain rfl:vc= .pointer (some ⟨q4,0,.none⟩):=by
    rcases T with _|u
    ·exact absurd rfl n
    exact b0.out
   go_wp2_with (first|(go_at_call 190;(with_reducible refine N.out.mono ?_);rintro r w2 ⟨rfl,n⟩;obtain rfl:=n.symm)|(go_at_call 191;(with_reducible refine O.out.mono ?_);rintro r w3 ⟨rfl,p⟩;obtain rfl:=p.symm)|(go_at_call 192;(with_reducible refine V.out.mono ?_);rintro r w4 ⟨rfl,B⟩;obtain rfl:=B.symm));go_returns;exact o.out _ _ hs.out rfl rfl C
  obtain rfl:vu= .pointer none:=by rw[S.out,bw];rfl
  obtain rfl:vc= .pointer none:=by rw[b0.out,n];rfl
  subst p;go_wp2_with (first|(go_at_call 190;(with_reducible refine N.out.mono ?_);rintro r w2 ⟨rfl,n⟩;obtain rfl:=n.symm)|(go_at_call 191;(with_reducible refine O.out.mono ?_);rintro r w3 ⟨rfl,p⟩;obtain rfl:=p.symm)|(go_at_call 192;(with_reducible refine V.out.mono ?_);rintro r w4 ⟨rfl,B⟩;obtain rfl:=B.symm)|(go_at_call 193;(with_reducible refine bs.out.mono ?_);rintro r w5 ⟨rfl,ba⟩;obtain rfl:=ba.symm));go_returns;exact o.out _ _ hs.out rfl rfl C
 case inr.inr.inr.inr.inr.inl=>
  clear D y o;replace hs:=hd' hs;obtain rfl:bb=true:=z.out;obtain rfl:vu= .pointer none:=by rw[S.out,U];rfl
  obtain rfl:vc= .pointer none:=by rw[b0.out,e2];rfl
  have bu:b=⟨i,l,m,bk,j⟩:=R.out.symm;subst bu;have gn:=G.out ⟨i,l,m,bk,j⟩;dsimp only at gn;replace gn:=hd' gn;replace bv:=hd' (fun Y q0 x=>L.out Y q0 x);clear G H L M;go_upto_region 11 with(first|(go_at_call 190;(with_reducible refine N.out.mono ?_);rintro r w2 ⟨rfl,n⟩;obtain rfl:=n.symm)|(go_at_call 191;(with_reducible refine O.out.mono ?_);rintro r w3 ⟨rfl,p⟩;obtain rfl:=p.symm)|(go_at_call 192;(with_reducible refine V.out.mono ?_);rintro r w4 ⟨rfl,B⟩;obtain rfl:=B.symm)|(go_at_call 193;(with_reducible refine bs.out.mono ?_);rintro r w5 ⟨rfl,ba⟩;obtain rfl:=ba.symm)|(go_at_call 194;(with_reducible refine bz.out.mono ?_);rintro r w6 ⟨rfl,bx⟩;obtain rfl:=bx.symm));have b6:At1 q w X.drew _ _:=⟨C.row.drew,C.only.drew,C.ls⟩;have b5:=hE.drew;have hS:=hd' (fun (Y:World) (v:Value) (h:zaa Y q (zby ⟨sp,sc,sm⟩ ⟨tc,bq,bf,I,T,bp,bc⟩ (.pointer (some ⟨q1,0,.none⟩)) (.pointer (some ⟨q2,0,.none⟩)) (.pointer none) v) 279) (h2:zaa Y E #[.bool i,.int .i64 l,.int .i64 m,.int .i64 bk,.int .i64 j] 264)=>(⟨h.cell 0,h.cell 1,h.cell 2,h.cell 3,h2.cell 0,h2.cell 1,h2.cell 2,h2.cell 3,h2.cell 4⟩:Y.cell? ⟨q,0,.none⟩=some (.int .i64 sp)/\Y.cell? ⟨q,1,.none⟩=some (.int .i64 sc)/\Y.cell? ⟨q,2,.none⟩=some (.int .i64 sm)/\Y.cell? ⟨q,3,.none⟩=some (.int .i64 tc)/\Y.cell? ⟨E,0,.none⟩=some (.bool i)/\Y.cell? ⟨E,1,.none⟩=some (.int .i64 l)/\Y.cell? ⟨E,2,.none⟩=some (.int .i64 m)/\Y.cell? ⟨E,3,.none⟩=some (.int .i64 bk)/\Y.cell? ⟨E,4,.none⟩=some (.int .i64 j)))
  go_region_held3 (fun Y=>Y.cell? ⟨q,0,.none⟩=some (.int .i64 sp)/\Y.cell? ⟨q,1,.none⟩=some (.int .i64 sc)/\Y.cell? ⟨q,2,.none⟩=some (.int .i64 sm)/\Y.cell? ⟨q,3,.none⟩=some (.int .i64 tc)/\Y.cell? ⟨E,0,.none⟩=some (.bool i)/\Y.cell? ⟨E,1,.none⟩=some (.int .i64 l)/\Y.cell? ⟨E,2,.none⟩=some (.int .i64 m)/\Y.cell? ⟨E,3,.none⟩=some (.int .i64 bk)/\Y.cell? ⟨E,4,.none⟩=some (.int .i64 j))
   (first|exact hS.out _ _ b6.row b5|exact hS.out _ _ hC.row b4|exact hS.out _ _ ((hC.set 7 _).row.cast rfl) (b4.other c8 _ _))
   (first|(go_at_call 195;(with_reducible refine(gn.out _).mono ?_);rintro r w6 ⟨q6,rfl,b9,Z,b7⟩;have hC:=b6.below b7;have b4:=b5.below b7;have z7:=ce (.pointer none) (hC.cell 7);have zf:=hC.free))
  go_wp2_with fail;go_returns;exact bv.out _ q6 _ hs.out e2 (Nat.le_trans J.out.size b9) (Z.other (by have h1:=C.lt;have h2:X.heap.size<=q6:=b9;omega) _ _) (hC.set 7 _)
 case inr.inr.inr.inr.inr.inr=>
  clear D y o;replace hs:=hd' hs;obtain rfl:bb=true:=z.out;obtain rfl:vu= .pointer none:=by rw[S.out,U];rfl
  obtain rfl:vc= .pointer none:=by rw[b0.out,e2];rfl
  have bu:b=⟨i,l,m,bk,j⟩:=R.out.symm;subst bu;have gn:=H.out ⟨i,l,m,bk,j⟩;dsimp only at gn;replace gn:=hd' gn;replace bv:=hd' (fun Y q0 x=>M.out Y q0 x);clear G H L M;go_upto_region 1 with(first|(go_at_call 190;(with_reducible refine N.out.mono ?_);rintro r w2 ⟨rfl,n⟩;obtain rfl:=n.symm)|(go_at_call 191;(with_reducible refine O.out.mono ?_);rintro r w3 ⟨rfl,p⟩;obtain rfl:=p.symm)|(go_at_call 192;(with_reducible refine V.out.mono ?_);rintro r w4 ⟨rfl,B⟩;obtain rfl:=B.symm)|(go_at_call 193;(with_reducible refine bs.out.mono ?_);rintro r w5 ⟨rfl,ba⟩;obtain rfl:=ba.symm)|(go_at_call 194;(with_reducible refine bz.out.mono ?_);rintro r w6 ⟨rfl,bx⟩;obtain rfl:=bx.symm));have b6:At1 q w X.drew _ _:=⟨C.row.drew,C.only.drew,C.ls⟩;have b5:=hE.drew;have hS:=hd' (fun (Y:World) (v:Value) (h:zaa Y q (zby ⟨sp,sc,sm⟩ ⟨tc,bq,bf,I,T,bp,bc⟩ (.pointer (some ⟨q1,0,.none⟩)) (.pointer (some ⟨q2,0,.none⟩)) v (.pointer none)) 279) (h2:zaa Y E #[.bool i,.int .i64 l,.int .i64 m,.int .i64 bk,.int .i64 j] 264)=>(⟨h.cell 0,h.cell 1,h.cell 2,h.cell 3,h2.cell 0,h2.cell 1,h2.cell 2,h2.cell 3,h2.cell 4⟩:Y.cell? ⟨q,0,.none⟩=some (.int .i64 sp)/\Y.cell? ⟨q,1,.none⟩=some (.int .i64 sc)/\Y.cell? ⟨q,2,.none⟩=some (.int .i64 sm)/\Y.cell? ⟨q,3,.none⟩=some (.int .i64 tc)/\Y.cell? ⟨E,0,.none⟩=some (.bool i)/\Y.cell? ⟨E,1,.none⟩=some (.int .i64 l)/\Y.cell? ⟨E,2,.none⟩=some (.int .i64 m)/\Y.cell? ⟨E,3,.none⟩=some (.int .i64 bk)/\Y.cell? ⟨E,4,.none⟩=some (.int .i64 j)))
  go_region_held3 (fun Y=>Y.cell? ⟨q,0,.none⟩=some (.int .i64 sp)/\Y.cell? ⟨q,1,.none⟩=some (.int .i64 sc)/\Y.cell? ⟨q,2,.none⟩=some (.int .i64 sm)/\Y.cell? ⟨q,3,.none⟩=some (.int .i64 tc)/\Y.cell? ⟨E,0,.none⟩=some (.bool i)/\Y.cell? ⟨E,1,.none⟩=some (.int .i64 l)/\Y.cell? ⟨E,2,.none⟩=some (.int .i64 m)/\Y.cell? ⟨E,3,.none⟩=some (.int .i64 bk)/\Y.cell? ⟨E,4,.none⟩=some (.int .i64 j))
   (first|exact hS.out _ _ b6.row b5|exact hS.out _ _ hC.row b4|exact hS.out _ _ ((hC.set 6 _).row.cast rfl) (b4.other c8 _ _))
   (first|(go_at_call 196;(with_reducible refine(gn.out _).mono ?_);rintro r w6 ⟨q6,rfl,b9,Z,b7⟩;have hC:=b6.below b7;have b4:=b5.below b7;have z6:=ce (.pointer none) (hC.cell 6);have zf:=hC.free))
  go_wp2_with fail;go_returns;exact bv.out _ q6 _ hs.out U (Nat.le_trans J.out.size b9) (Z.other (by have h1:=C.lt;have h2:X.heap.size<=q6:=b9;omega) _ _) (hC.set 6 _)
theorem ztt{S:Nat->Prop}(q q1:Nat)(s:Sh)(t:Rr)(r:Rs)(v2 v3 v4:Value)(w:World)(O:zaa w q (zby s t (.pointer (some ⟨q1,0,.none⟩)) v2 v3 v4) 279)(R:RsO S w q1 s r)(hd:t.done=true)(N:t.err=0):
  Calls Tryz.prog 291 #[.pointer (some ⟨q,0,.none⟩)] w fun e w'=>e= .returned (gotV r.got)/\Below w.heap.size w w':=by
 have o:=fun Y (V:Below w.heap.size w Y)=>zei (R.only (Only.of_below (F:=fun _=>False) V) (fun _ _ e=>e));clear R;unfold gotV at o ⊢;generalize r.got.getD Blk.zero=blk at *;generalize r.got.isSome=L at *;obtain⟨b,j,l,z,i⟩:=blk;dsimp only[zg0]at o ⊢;replace o:=hd' o;have C:=(Below.refl w.heap.size w).alloc lr (.cells #[.bool false,.int .i64 0,.int .i64 0,.int .i64 0,.int .i64 0] 264);have H:zaa (w.alloc (.cells #[.bool false,.int .i64 0,.int .i64 0,.int .i64 0,.int .i64 0] 264)) w.heap.size #[.bool false,.int .i64 0,.int .i64 0,.int .i64 0,.int .i64 0] 264:=heap_alloc_new _ _;go_in;go_upto_region 1 with fail;generalize w.alloc (.cells #[.bool false,.int .i64 0,.int .i64 0,.int .i64 0,.int .i64 0] 264)=X at *;obtain⟨E,T,B⟩:=hidv w.heap.size;simp only[<-B]at H ⊢;have n:w.heap.size<=E:=by omega
 clear B;have lE:=H.lt;have y:=O.below C;have c9:X.cell? ⟨q,9,.none⟩=some (.bool true):=by rw[<-hd];exact y.cell 9
 have c8:X.cell? ⟨q,8,.none⟩=some (.int .i64 0):=by rw[<-N];exact y.cell 8
 have c4:=ce (.pointer (some ⟨q1,0,.none⟩)) (y.cell 4);clear hd N O y;go_wp2_with (first|(go_at_call 189;(with_reducible refine(o.out _ C).mono ?_);rintro r M ⟨rfl,G⟩;have I:=zab C G;have m:=H.below G;have e0:=ce (.bool false) (m.cell 0);have e1:=ci 0 (m.cell 1);have e2:=ci 0 (m.cell 2);have e3:=ci 0 (m.cell 3);have e4:=ci 0 (m.cell 4);have ef:=zax m));have D:zaa (((((M.setCell ⟨E,0,.none⟩ (.bool b)).setCell ⟨E,1,.none⟩ (.int .i64 j)).setCell ⟨E,2,.none⟩ (.int .i64 l)).setCell ⟨E,3,.none⟩ (.int .i64 z)).setCell ⟨E,4,.none⟩ (.int .i64 i)) E #[.bool b,.int .i64 j,.int .i64 l,.int .i64 z,.int .i64 i] 264:=(((((m.set 0 (.bool b)).set 1 (.int .i64 j)).set 2 (.int .i64 l)).set 3 (.int .i64 z)).set 4 (.int .i64 i));have J:Below w.heap.size w (((((M.setCell ⟨E,0,.none⟩ (.bool b)).setCell ⟨E,1,.none⟩ (.int .i64 j)).setCell ⟨E,2,.none⟩ (.int .i64 l)).setCell ⟨E,3,.none⟩ (.int .i64 z)).setCell ⟨E,4,.none⟩ (.int .i64 i)):=(((((I.setCell (p:=⟨E,0,.none⟩) n (.bool b)).setCell (p:=⟨E,1,.none⟩) n (.int .i64 j)).setCell (p:=⟨E,2,.none⟩) n (.int .i64 l)).setCell (p:=⟨E,3,.none⟩) n (.int .i64 z)).setCell (p:=⟨E,4,.none⟩) n (.int .i64 i));generalize ((((M.setCell ⟨E,0,.none⟩ (.bool b)).setCell ⟨E,1,.none⟩ (.int .i64 j)).setCell ⟨E,2,.none⟩ (.int .i64 l)).setCell ⟨E,3,.none⟩ (.int .i64 z)).setCell ⟨E,4,.none⟩ (.int .i64 i)=U at *;have r0:=ce (.bool b) (D.cell 0);have r1:=ci j (D.cell 1);have Z:=ci l (D.cell 2);have r3:=ci z (D.cell 3);have r4:=ci i (D.cell 4);exact bodyPost_ret (v:= .tuple #[.agg #[.bool b,.int .i64 j,.int .i64 l,.int .i64 z,.int .i64 i],.bool L]) (by simp[results,Tryz.results291,go_sem,r0,r1,Z,r3,r4]) rfl ⟨rfl,J⟩
theorem zyb(q:Nat)(s:Sh)(t:Rr)(H I J L:Value)(w:World)(z:zaa w q (zby s t H I J L) 279)(y:t.done=false\/t.err≠0):
  Calls Tryz.prog 291 #[.pointer (some ⟨q,0,.none⟩)] w fun e w'=>e= .returned (gotV none)/\Below w.heap.size w w':=by
 have r:t.done=false\/(t.done=true/\(t.err==0)=false):=by
  cases h:t.done
  ·exact .inl rfl
  exact .inr ⟨rfl,by simpa[h] using y⟩
 have n:=(Below.refl w.heap.size w).alloc lr (.cells #[.bool false,.int .i64 0,.int .i64 0,.int .i64 0,.int .i64 0] 264);have i:zaa (w.alloc (.cells #[.bool false,.int .i64 0,.int .i64 0,.int .i64 0,.int .i64 0] 264)) w.heap.size #[.bool false,.int .i64 0,.int .i64 0,.int .i64 0,.int .i64 0] 264:=heap_alloc_new _ _;go_in;go_upto_region 1 with fail;generalize w.alloc (.cells #[.bool false,.int .i64 0,.int .i64 0,.int .i64 0,.int .i64 0] 264)=X at *;obtain⟨E,B,j⟩:=hidv w.heap.size;simp only[<-j]at i ⊢;have b:w.heap.size<=E:=by omega
 clear j;have Z:=i.lt;have l:=z.below n;have O:=ce (.bool false) (i.cell 0);have R:=ci 0 (i.cell 1);have S:=ci 0 (i.cell 2);have T:=ci 0 (i.cell 3);have V:=ci 0 (i.cell 4);have Y:=zax i;have N:=ce (.bool t.done) (l.cell 9);have M:=ci t.err (l.cell 8);clear y z l;generalize t.done=td at *;generalize t.err=te at *;rcases r with rfl|⟨rfl,C⟩;all_goals go_wp2_with fail;have m:zaa (((((X.setCell ⟨E,0,.none⟩ (.bool false)).setCell ⟨E,1,.none⟩ (.int .i64 0)).setCell ⟨E,2,.none⟩ (.int .i64 0)).setCell ⟨E,3,.none⟩ (.int .i64 0)).setCell ⟨E,4,.none⟩ (.int .i64 0)) E #[.bool false,.int .i64 0,.int .i64 0,.int .i64 0,.int .i64 0] 264:=(((((i.set 0 (.bool false)).set 1 (.int .i64 0)).set 2 (.int .i64 0)).set 3 (.int .i64 0)).set 4 (.int .i64 0));have o:Below w.heap.size w (((((X.setCell ⟨E,0,.none⟩ (.bool false)).setCell ⟨E,1,.none⟩ (.int .i64 0)).setCell ⟨E,2,.none⟩ (.int .i64 0)).setCell ⟨E,3,.none⟩ (.int .i64 0)).setCell ⟨E,4,.none⟩ (.int .i64 0)):=(((((n.setCell (p:=⟨E,0,.none⟩) b (.bool false)).setCell (p:=⟨E,1,.none⟩) b (.int .i64 0)).setCell (p:=⟨E,2,.none⟩) b (.int .i64 0)).setCell (p:=⟨E,3,.none⟩) b (.int .i64 0)).setCell (p:=⟨E,4,.none⟩) b (.int .i64 0));generalize ((((X.setCell ⟨E,0,.none⟩ (.bool false)).setCell ⟨E,1,.none⟩ (.int .i64 0)).setCell ⟨E,2,.none⟩ (.int .i64 0)).setCell ⟨E,3,.none⟩ (.int .i64 0)).setCell ⟨E,4,.none⟩ (.int .i64 0)=U at *;have r0:=ce (.bool false) (m.cell 0);have r1:=ci 0 (m.cell 1);have D:=ci 0 (m.cell 2);have F:=ci 0 (m.cell 3);have G:=ci 0 (m.cell 4);exact bodyPost_ret (v:= .tuple #[.agg #[.bool false,.int .i64 0,.int .i64 0,.int .i64 0,.int .i64 0],.bool false]) (by simp[results,Tryz.results291,go_sem,r0,r1,D,F,G]) rfl ⟨rfl,o⟩
end

section

open Go.RowKit

def RrO (F:Nat->Prop) (w:World) (q:Nat) (s:Sh) (t:Rr):Prop:=
 (∀ k,F k->k < w.heap.size)/\F q/\∃ q1 q2 q3 q4 F1 F2,(∀ k,F1 k->F k/\k≠q)/\(∀ k,F2 k->F k/\k≠q/\¬ F1 k)/\
  zaa w q (zby s t (ptrV t.res q1) (ptrV t.free q2) (ptrV t.undo q3) (ptrV t.com q4)) 279/\
  (∀ x,t.res=some x->RsO F1 w q1 s x)/\(∀ x,t.free=some x->FeO F2 w q2 s x)/\
  (∀ x,t.undo=some x->(F q3/\q3≠q/\¬ F1 q3/\¬ F2 q3)/\zaa w q3 (zhm s x) 309)/\
  (∀ x,t.com=some x->(F q4/\q4≠q/\¬ F1 q4/\¬ F2 q4)/\zaa w q4 (ze3 s x) 311)
theorem zec{F:Nat->Prop}{w w':World}(h:∀ k,F k->k<w.heap.size)(hs:w.heap.size<=w'.heap.size):∀ k,grow F w w' k->k<w'.heap.size:=fun k e=>e.elim (fun e=>Nat.lt_of_lt_of_le (h k e) hs) (fun e=>e.2)
theorem RrO.settled{F:Nat->Prop}{w:World}{q:Nat}{s:Sh}{t:Rr}(h:RrO F w q s t){r:Rs}{f:Fe}(l:t.res=some r)(i:t.free=some f):
  Calls Tryz.prog 175 #[.pointer (some ⟨q,0,.none⟩)] w fun e w'=>e= .returned (.tuple #[])/\Only (fun k=>k=q) w w'/\RrO (grow F w w') w' q s (t.settle s):=by
 obtain⟨z,N,q1,q2,q3,q4,U,V,m,n,p,T,S,hu,hc⟩:=h;have O:=S f i;obtain⟨f1,q7,f2,f3⟩:=O;have B:zaa w q (zby s t (.pointer (some ⟨q1,0,.none⟩)) (.pointer (some ⟨q2,0,.none⟩)) (ptrV t.undo q3) (ptrV t.com q4)) 279:=by rw[l,i]at p;exact p
 refine(ztq q q1 q2 q3 q4 s t r f (ptrV f.put q7) w l i B (T r l) f2.row (fun x j=>(hu x j).2) (fun x j=>(hc x j).2)).mono fun e w' hS=>?_;obtain⟨Y,Z,X,E,G⟩:=hS.at';have R:=hS.only.size;have er:(t.settle s).res=t.res/\(t.settle s).free=t.free:=by rcases zcp s t r f l i with⟨_,e⟩|⟨_,_,e⟩|⟨_,_,_,e⟩|⟨_,_,_,_,e⟩|⟨b,_,_,_,_,_,e⟩|⟨b,_,_,_,_,_,_,_,_,e⟩|⟨b,_,_,_,_,_,_,_,_,e⟩<;>rw[e]<;>exact⟨rfl,rfl⟩
 refine⟨hS.ret,hS.only,zec z R,.inl N,q1,q2,Y,Z,U,V,fun k o=>⟨.inl (m k o).1,(m k o).2⟩,fun k o=>⟨.inl (n k o).1,(n k o).2⟩,?_,?_,?_,?_,?_⟩
 ·rw[er.1,er.2,l,i];exact X
 ·intro x j;rw[er.1]at j;exact(T x j).only hS.only (fun k o=>(m k o).2)
 ·intro x j;rw[er.2]at j;exact(S x j).only hS.only (fun k o=>(n k o).2.1)
 ·intro x j;rcases E with⟨E,rfl⟩|⟨E,L,y,M,D⟩
  ·rw[E]at j;obtain⟨⟨a1,C,H,I⟩,J⟩:=hu x j;exact⟨⟨.inl a1,C,H,I⟩,J.only hS.only C⟩
  rw[M]at j;injection j with j;subst j;exact⟨⟨.inr ⟨L,D.lt⟩,fun e=>by have:=z q N;omega,fun e=>by have:=z _ (m _ e).1;omega,fun e=>by have:=z _ (n _ e).1;omega⟩,D⟩
 intro x j;rcases G with⟨G,rfl⟩|⟨G,L,y,M,D⟩
 ·rw[G]at j;obtain⟨⟨a1,C,H,I⟩,J⟩:=hc x j;exact⟨⟨.inl a1,C,H,I⟩,J.only hS.only C⟩
 rw[M]at j;injection j with j;subst j;exact⟨⟨.inr ⟨L,D.lt⟩,fun e=>by have:=z q N;omega,fun e=>by have:=z _ (m _ e).1;omega,fun e=>by have:=z _ (n _ e).1;omega⟩,D⟩
structure rrOk (s:Sh) (t:Rr):Prop where
 cl:t.done=false->∃ r f,t.res=some r/\t.free=some f/\((∀ x,r.seeker=some x->skOk s x)/\(∀ x,r.runner=some x->rnOk s x))/\feOk s f/\(∀ u,t.undo=some u->unOk s u)/\(∀ u,t.com=some u->cmOk s u)/\(t.undo=none\/t.com=none)/\(r.done=true->f.done=true->t.undo≠none\/t.com≠none)
theorem RrO.zuw{F:Nat->Prop}{q p b:Nat}{s:Sh}{t:Rr}{m:Mem}{w:World}(h:RrO F w q s t){r:Rs}(o:t.res=some r)(hw:zaq w p b m)(O:¬ F p)(hb:¬ F b)(V:Fits s m)(X:(∀ x,r.seeker=some x->skOk s x)/\(∀ x,r.runner=some x->rnOk s x))(hs:m.st<1000000000):
  ∃ q1,w.cell? ⟨q,4,.none⟩=some (.pointer (some ⟨q1,0,.none⟩))/\Calls Tryz.prog 253 #[.pointer (some ⟨q1,0,.none⟩),.pointer (some ⟨p,0,.none⟩)] w fun e w'=>zef F p b w w' e (zb0 s r m).2/\RrO (grow F w w') w' q s {t with res:=some (zb0 s r m).1}:=by
 obtain⟨M,H,q1,q2,q3,q4,E,T,j,l,B,Z,N,hu,hc⟩:=h;have S:=ce (ptrV t.res q1) (B.cell 4);rw[o]at S;refine⟨q1,S,(zo5 (Z r o) hw (fun e=>O (j p e).1) (fun e=>hb (j b e).1) V X hs).mono fun e w' hS=>?_⟩;obtain⟨z,U⟩:=hS;have R:=z.only.size;have Y:¬ (E q\/q=p\/q=b):=by
  rintro(e|e|e)
  ·exact(j q e).2 rfl
  ·exact O (e ▸ H)
  exact hb (e ▸ H)
 have n:∀ k,F k->¬ E k->¬ (E k\/k=p\/k=b):=fun k i C e=>by
  rcases e with e|e|e
  ·exact C e
  ·exact O (e ▸ i)
  exact hb (e ▸ i)
 have D:∀ k,F k->¬ E k->¬ grow E w w' k:=fun k i C e=>by
  rcases e with e|e
  ·exact C e
  have:=M k i;omega
 refine⟨⟨z.ret,z.wds,z.only.weak fun k i=>i.imp (fun e=>(j k e).1) id⟩,zec M R,.inl H,q1,q2,q3,q4,grow E w w',T,fun k i=>?_,fun k i=>⟨.inl (l k i).1,(l k i).2.1,D k (l k i).1 (l k i).2.2⟩,?_,?_,?_,?_,?_⟩
 ·rcases i with i|i
  ·exact⟨.inl (j k i).1,(j k i).2⟩
  exact⟨.inr i,fun e=>by have:=M q H;omega⟩
 ·have:=B.only z.only Y;rw[o]at this;exact this
 ·intro x y;injection y with y;subst y;exact U
 ·intro x y;exact(N x y).only z.only (fun k i=>n k (l k i).1 (l k i).2.2)
 ·intro x y;obtain⟨⟨a1,I,G,J⟩,L⟩:=hu x y;exact⟨⟨.inl a1,I,D _ a1 G,J⟩,L.only z.only (n _ a1 G)⟩
 intro x y;obtain⟨⟨a1,I,G,J⟩,L⟩:=hc x y;exact⟨⟨.inl a1,I,D _ a1 G,J⟩,L.only z.only (n _ a1 G)⟩
theorem RrO.weak{F G:Nat->Prop}{w:World}{q:Nat}{s:Sh}{t:Rr}(h:RrO F w q s t)(j:∀ k,F k->G k)(hb:∀ k,G k->k<w.heap.size):RrO G w q s t:=by
 obtain⟨z,r,q1,q2,q3,q4,o,p,f,i,m,y,n,hu,hc⟩:=h;exact⟨hb,j q r,q1,q2,q3,q4,o,p,fun k l=>⟨j k (f k l).1,(f k l).2⟩,fun k l=>⟨j k (i k l).1,(i k l).2⟩,m,y,n,fun x b=>⟨⟨j _ (hu x b).1.1,(hu x b).1.2⟩,(hu x b).2⟩,fun x b=>⟨⟨j _ (hc x b).1.1,(hc x b).1.2⟩,(hc x b).2⟩⟩
theorem RrO.z5a{F:Nat->Prop}{q p b:Nat}{s:Sh}{t:Rr}{m:Mem}{w:World}(h:RrO F w q s t){f:Fe}(l:t.free=some f)(Z:zaq w p b m)(N:¬ F p)(hb:¬ F b)(U:Fits s m)(V:feOk s f)(hs:m.st<1000000000):
  ∃ q2,w.cell? ⟨q,5,.none⟩=some (.pointer (some ⟨q2,0,.none⟩))/\Calls Tryz.prog 271 #[.pointer (some ⟨q2,0,.none⟩),.pointer (some ⟨p,0,.none⟩)] w fun e w'=>zef F p b w w' e (zca s f m).2/\RrO (grow F w w') w' q s {t with free:=some (zca s f m).1}:=by
 obtain⟨H,G,q1,q2,q3,q4,S,C,o,j,z,Y,M,hu,hc⟩:=h;have R:=ce (ptrV t.free q2) (z.cell 5);rw[l]at R;refine⟨q2,R,(zw0 (M f l) Z (fun e=>N (j p e).1) (fun e=>hb (j b e).1) U V hs).mono fun e w' hS=>?_⟩;obtain⟨y,T⟩:=hS;have O:=y.only.size;have X:¬ (C q\/q=p\/q=b):=by
  rintro(e|e|e)
  ·exact(j q e).2.1 rfl
  ·exact N (e ▸ G)
  exact hb (e ▸ G)
 have n:∀ k,F k->¬ C k->¬ (C k\/k=p\/k=b):=fun k i B e=>by
  rcases e with e|e|e
  ·exact B e
  ·exact N (e ▸ i)
  exact hb (e ▸ i)
 have E:∀ k,F k->¬ C k->¬ grow C w w' k:=fun k i B e=>by
  rcases e with e|e
  ·exact B e
  have:=H k i;omega
 refine⟨⟨y.ret,y.wds,y.only.weak fun k i=>i.imp (fun e=>(j k e).1) id⟩,zec H O,.inl G,q1,q2,q3,q4,S,grow C w w',fun k i=>⟨.inl (o k i).1,(o k i).2⟩,fun k i=>?_,?_,?_,?_,?_,?_⟩
 ·rcases i with i|i
  ·exact⟨.inl (j k i).1,(j k i).2⟩
  exact⟨.inr i,fun e=>by have:=H q G;omega,fun e=>by have:=H k (o k e).1;omega⟩
 ·have:=z.only y.only X;rw[l]at this;exact this
 ·intro x r;exact(Y x r).only y.only (fun k i=>n k (o k i).1 (fun e=>(j k e).2.2 i))
 ·intro x r;injection r with r;subst r;exact T
 ·intro x r;obtain⟨⟨a1,I,J,D⟩,L⟩:=hu x r;exact⟨⟨.inl a1,I,J,E _ a1 D⟩,L.only y.only (n _ a1 D)⟩
 intro x r;obtain⟨⟨a1,I,J,D⟩,L⟩:=hc x r;exact⟨⟨.inl a1,I,J,E _ a1 D⟩,L.only y.only (n _ a1 D)⟩
theorem RrO.z5y{F:Nat->Prop}{q p b:Nat}{s:Sh}{t:Rr}{m:Mem}{w:World}(h:RrO F w q s t){u:Un}(y:t.undo=some u)(E:t.com=none)(Y:zaq w p b m)(G:¬ F p)(hb:¬ F b)(T:Fits s m)(U:unOk s u)(hs:m.st<1000000000):
  ∃ q3,w.cell? ⟨q,6,.none⟩=some (.pointer (some ⟨q3,0,.none⟩))/\Calls Tryz.prog 285 #[.pointer (some ⟨q3,0,.none⟩),.pointer (some ⟨p,0,.none⟩)] w fun e w'=>zef F p b w w' e (zcf s u m).2/\RrO (grow F w w') w' q s {t with undo:=some (zcf s u m).1}:=by
 obtain⟨S,B,q1,q2,q3,q4,N,O,o,r,n,X,C,hu,hc⟩:=h;have M:=ce (ptrV t.undo q3) (n.cell 6);rw[y]at M;obtain⟨⟨z,I,J,L⟩,R⟩:=hu u y;refine⟨q3,M,(zyo q3 p b s u m w R Y (fun e=>G (e ▸ z)) (fun e=>hb (e ▸ z)) T U hs).mono fun e w' hS=>?_⟩;have H:=hS.only.size;have V:¬ (q=q3\/q=p\/q=b):=by
  rintro(e|e|e)
  ·exact I e.symm
  ·exact G (e ▸ B)
  exact hb (e ▸ B)
 have l:∀ k,F k->k≠q3->¬ (k=q3\/k=p\/k=b):=fun k i D e=>by
  rcases e with e|e|e
  ·exact D e
  ·exact G (e ▸ i)
  exact hb (e ▸ i)
 refine⟨⟨hS.ret,hS.wds,hS.only.weak fun k i=>i.imp (fun e=>by rw[e];exact z) id⟩,zec S H,.inl B,q1,q2,q3,q4,N,O,fun k i=>⟨.inl (o k i).1,(o k i).2⟩,fun k i=>⟨.inl (r k i).1,(r k i).2⟩,?_,?_,?_,?_,?_⟩
 ·have:=n.only hS.only V;rw[y]at this;exact this
 ·intro x j;exact(X x j).only hS.only (fun k i=>l k (o k i).1 (fun e=>J (e ▸ i)))
 ·intro x j;exact(C x j).only hS.only (fun k i=>l k (r k i).1 (fun e=>L (e ▸ i)))
 ·intro x j;injection j with j;subst j;exact⟨⟨.inl z,I,J,L⟩,hS.row⟩
 intro x j;exact absurd j (by rw[E];exact fun e=>by cases e)
theorem RrO.z9y{F:Nat->Prop}{q p b:Nat}{s:Sh}{t:Rr}{m:Mem}{w:World}(h:RrO F w q s t){u:Cm}(y:t.com=some u)(E:t.undo=none)(Y:zaq w p b m)(G:¬ F p)(hb:¬ F b)(T:Fits s m)(U:cmOk s u)(hs:m.st<1000000000):
  ∃ q3,w.cell? ⟨q,7,.none⟩=some (.pointer (some ⟨q3,0,.none⟩))/\Calls Tryz.prog 254 #[.pointer (some ⟨q3,0,.none⟩),.pointer (some ⟨p,0,.none⟩)] w fun e w'=>zef F p b w w' e (zb3 s u m).2/\RrO (grow F w w') w' q s {t with com:=some (zb3 s u m).1}:=by
 obtain⟨S,B,q1,q2,q3,q4,N,O,o,r,n,X,C,hu,hc⟩:=h;have M:=ce (ptrV t.com q4) (n.cell 7);rw[y]at M;obtain⟨⟨z,I,J,L⟩,R⟩:=hc u y;refine⟨q4,M,(zou q4 p b s u m w R Y (fun e=>G (e ▸ z)) (fun e=>hb (e ▸ z)) T U hs).mono fun e w' hS=>?_⟩;have H:=hS.only.size;have V:¬ (q=q4\/q=p\/q=b):=by
  rintro(e|e|e)
  ·exact I e.symm
  ·exact G (e ▸ B)
  exact hb (e ▸ B)
 have l:∀ k,F k->k≠q4->¬ (k=q4\/k=p\/k=b):=fun k i D e=>by
  rcases e with e|e|e
  ·exact D e
  ·exact G (e ▸ i)
  exact hb (e ▸ i)
 refine⟨⟨hS.ret,hS.wds,hS.only.weak fun k i=>i.imp (fun e=>by rw[e];exact z) id⟩,zec S H,.inl B,q1,q2,q3,q4,N,O,fun k i=>⟨.inl (o k i).1,(o k i).2⟩,fun k i=>⟨.inl (r k i).1,(r k i).2⟩,?_,?_,?_,?_,?_⟩
 ·have:=n.only hS.only V;rw[y]at this;exact this
 ·intro x j;exact(X x j).only hS.only (fun k i=>l k (o k i).1 (fun e=>J (e ▸ i)))
 ·intro x j;exact(C x j).only hS.only (fun k i=>l k (r k i).1 (fun e=>L (e ▸ i)))
 ·intro x j;exact absurd j (by rw[E];exact fun e=>by cases e)
 intro x j;injection j with j;subst j;exact⟨⟨.inl z,I,J,L⟩,hS.row⟩
end

end Go.Proofs.YtkbddndcegpllaaGreat
