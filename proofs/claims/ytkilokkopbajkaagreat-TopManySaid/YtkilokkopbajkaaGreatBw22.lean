/- Lemmas for the claim. -/
import Derived.Test.YtkilokkopbajkaaGreatBw21

set_option linter.all false
set_option maxHeartbeats 4000000
set_option maxRecDepth 100000
namespace Go.Proofs.YtkilokkopbajkaaGreat

attribute [local go_sem] RA sE QF rG

section

open Go.RowKit

attribute [local go_sem ↓] Go.wp_at_zero Go.wp_at_succ

def IB (s:Sh) (t:Rr) (v1 v2 v3 v4:Value):Array Value:= #[s.p,s.c,s.m,t.c,v1,v2,v3,v4,t.err,t.done]
attribute [local go_sem] IB

def FeO (F:Nat->Prop) (w:World) (q:Nat) (s:Sh) (t:Fe):Prop:=F q/\∃ q2,FeAt w q q2 s t/\(t.put≠none->F q2)
theorem FeAt.KJ{w w':World}{q q2:Nat}{s:Sh}{t:Fe}{G:Nat->Prop}(h:FeAt w q q2 s t)(f:Only G w w')(h1:¬ G q)(h2:t.put≠none->¬ G q2):FeAt w' q q2 s t:=
 ⟨h.row.only f h1,fun x b=>⟨(h.inn x b).1.only f (h2 (by rw[b];exact fun e=>by cases e)),(h.inn x b).2⟩⟩
theorem FeO.only{F G:Nat->Prop}{w w':World}{q:Nat}{s:Sh}{t:Fe}(h:FeO F w q s t)(b:Only G w w')(hd:∀ k,F k->¬ G k):FeO F w' q s t:=by
 obtain⟨h1,q2,h2,h3⟩:=h;exact⟨h1,q2,h2.KJ b (hd q h1) (fun e=>hd q2 (h3 e)),h3⟩
theorem WW{F:Nat->Prop}{q p b:Nat}{s:Sh}{t:Fe}{m:Mem}{w:World}(h:FeO F w q s t)(B:oA w p b m)(o:¬ F p)(hb:¬ F b)(y:Fits s m)(z:feOk s t)(hs:m.st<1000000000):
  Calls Tryz.prog 232 #[some q,some p] w fun e w'=>YB F p b w w' e (KB s t m).2/\FeO (grow F w w') w' q s (KB s t m).1:=by
 obtain⟨h1,q2,h2,h3⟩:=h;refine(zyu q q2 p b s t m w h2 B (fun e=>o (e ▸ h1)) (fun e=>hb (e ▸ h1)) (fun l=>⟨fun e=>o (e ▸ h3 l),fun e=>hb (e ▸ h3 l)⟩) y z hs).mono fun e w' hS=>?_;have l:t.put.isSome=true->F q2:=fun e=>h3 (fun r=>by rw[r]at e;cases e);obtain⟨q3,h4,i⟩:=hS.at';refine⟨⟨hS.ret,hS.wds,hS.only.weak fun k j=>?_⟩,.inl h1,q3,h4,fun n=>?_⟩
 ·rcases j with rfl|⟨e,rfl⟩|j|j
  ·exact .inl h1
  ·exact .inl (l e)
  ·exact .inr (.inl j)
  exact .inr (.inr j)
 rcases i with⟨rfl,i⟩|i
 ·cases hi:t.put.isSome
  ·exact absurd (i hi) n
  exact .inl (l hi)
 rcases hq:(KB s t m).1.put with _|x
 ·exact absurd hq n
 exact .inr ⟨i,(h4.inn x hq).1.lt⟩
theorem zzc(q:Nat)(cs:Array Value)(v:Bool)(w:World)(h:aA w q cs 249)(b:cs[9]?=some (.bool v)):Calls Tryz.prog 244 #[some q] w fun e w'=>e= .returned (.bool v)/\w'=w:=by
 have c:=(h.cell 9).trans b;clear h b;go_in;go_wp2_with fail;go_returns;exact⟨rfl,rfl⟩
theorem zzz(q:Nat)(s:Sh)(t:Rr)(j l m n:Value)(w:World)(b:aA w q (IB s t j l m n) 249):
  Calls Tryz.prog 250 #[some q] w fun e w'=>e= .returned (.int .i64 t.err)/\w'=w:=by
 have i:=b.cell;clear b;go_in;go_wp2_with fail;go_returns;exact⟨rfl,rfl⟩
theorem sW(q:Nat)(s:Sh)(t:Rr)(p r y z:Value)(x:Int)(w:World)(l:aA w q (IB s t p r y z) 249):
  Calls Tryz.prog 150 #[some q,x] w fun e w'=>Turned q w w' e (IB s {t with err:=x,done:=true} p r y z) 249:=by
 have h0:=At1.start l;clear l;obtain⟨sp,C,D⟩:=s;obtain⟨E,o,i,j,m,n,b⟩:=t;have B:=h0.cell;have F:=h0.free;go_in;go_wp2_with fail;go_returns;exact((h0.set 8 _).set 9 _).fin rfl
theorem zyg(q q2:Nat)(s:Sh)(t:Rr)(f:Fe)(n o p y:Value)(w:World)(j:aA w q (IB s t o (.pointer (some ⟨q2,0,.none⟩)) p y) 249)(i:aA w q2 (RA s f n) 246):
  Calls Tryz.prog 251 #[some q] w fun e w'=>e= .returned (.bool f.gave)/\w'=w:=by
 have l:=j.cell;have m:=hd' (gL q2 _ f.gave w i rfl);clear j i;go_in;go_wp2_with (go_at_call 163;(with_reducible refine m.out.mono ?_);rintro r z ⟨rfl,b⟩;obtain rfl:=b.symm);go_returns;exact⟨rfl,rfl⟩
theorem zob(q:Nat)(s:Sh)(t:Rr)(m n o:Value)(w:World)(i:aA w q (IB s t m (.pointer none) n o) 249):
  Calls Tryz.prog 251 #[some q] w fun e w'=>e= .returned (.bool false)/\w'=w:=by
 have j:=i.cell;have l:=hd' (zoc w);clear i;go_in;go_wp2_with (go_at_call 163;(with_reducible refine l.out.mono ?_);rintro r p ⟨rfl,b⟩;obtain rfl:=b.symm);go_returns;exact⟨rfl,rfl⟩
def ED (o:Option Un):Bool:=match o with | some u=> u.done | none=> false
def pF (o:Option Cm):Bool:=match o with | some u=> u.done | none=> false
theorem LF(s:Sh)(t:Rr)(r:Rs)(f:Fe)(h1:t.res=some r)(h2:t.free=some f):(ED t.undo=true/\t.settle s= {t with err:=1,done:=true})\/(ED t.undo=false/\pF t.com=true/\t.settle s= {t with err:=0,done:=true})\/(ED t.undo=false/\pF t.com=false/\r.done=false/\t.settle s=t)\/(ED t.undo=false/\pF t.com=false/\r.done=true/\r.got=none/\t.settle s= {t with err:=3,done:=true})\/(∃ b,ED t.undo=false/\pF t.com=false/\r.done=true/\r.got=some b/\(t.undo≠none\/(t.undo=none/\t.com≠none)\/(t.undo=none/\t.com=none/\f.done=false))/\t.settle s=t)\/(∃ b,ED t.undo=false/\pF t.com=false/\r.done=true/\r.got=some b/\t.undo=none/\t.com=none/\f.done=true/\f.gave=true/\t.settle s= {t with com:=some (rB s t.c b)})\/(∃ b,ED t.undo=false/\pF t.com=false/\r.done=true/\r.got=some b/\t.undo=none/\t.com=none/\f.done=true/\f.gave=false/\t.settle s= {t with undo:=some (NC s t.c b)}):=by
 obtain⟨p,o,m,i,j,n,l⟩:=t;dsimp only at h1 h2;subst h1 h2;unfold Rr.settle ED pF;dsimp only;rcases i with _|u<;>rcases j with _|v
 ·cases h3:r.done<;>cases h4:r.got<;>cases h5:f.done<;>cases h6:f.gave<;>simp[*]
 ·cases h7:v.done<;>cases h3:r.done<;>cases h4:r.got<;>simp[*]
 ·cases h7:u.done<;>cases h3:r.done<;>cases h4:r.got<;>simp[*]
 cases h8:u.done<;>cases h7:v.done<;>cases h3:r.done<;>cases h4:r.got<;>simp[*]
structure JK (q q1 q2 q3 q4:Nat) (s:Sh) (t:Rr) (w w':World) (e:Ending):Prop where
 ret:e= .returned (.tuple #[])
 only:Only (fun k=> k=q) w w'
 at':∃ q5 q6,aA w' q (IB s (t.settle s) (.pointer (some ⟨q1,0,.none⟩)) (.pointer (some ⟨q2,0,.none⟩)) (ptrV (t.settle s).undo q5) (ptrV (t.settle s).com q6)) 249/\
  (((t.settle s).undo=t.undo/\q5=q3)\/(t.undo=none/\w.heap.size<=q5/\∃ x,(t.settle s).undo=some x/\aA w' q5 (rG s x) 274))/\
  (((t.settle s).com=t.com/\q6=q4)\/(t.com=none/\w.heap.size<=q6/\∃ x,(t.settle s).com=some x/\aA w' q6 (sE s x) 276))
theorem ztq{F1:Nat->Prop}(q q1 q2 q3 q4:Nat)(s:Sh)(t:Rr)(r:Rs)(f:Fe)(pv:Value)(w:World)(bn:t.res=some r)(b8:t.free=some f)(hq:aA w q (IB s t (.pointer (some ⟨q1,0,.none⟩)) (.pointer (some ⟨q2,0,.none⟩)) (ptrV t.undo q3) (ptrV t.com q4)) 249) (hr:RsO F1 w q1 s r) (hf:aA w q2 (RA s f pv) 246)(hu:∀ x,t.undo=some x->aA w q3 (rG s x) 274) (hc:∀ x,t.com=some x->aA w q4 (sE s x) 276):
  Calls Tryz.prog 151 #[some q] w fun e w'=>JK q q1 q2 q3 q4 s t w w' e:=by
 have h0:=At1.start hq;clear hq;have C:=LF s t r f bn b8;have o:Hid (∀ Y (t':Rr),t.settle s=t'->t'.undo=t.undo->t'.com=t.com->At1 q w Y (IB s t' (.pointer (some ⟨q1,0,.none⟩)) (.pointer (some ⟨q2,0,.none⟩)) (ptrV t.undo q3) (ptrV t.com q4)) 249->JK q q1 q2 q3 q4 s t w Y (.returned (.tuple #[]))):=hd' fun Y t' U e2 e3 hA=>⟨rfl,hA.only,q3,q4,by rw[U,e2,e3];exact hA.row,.inl ⟨by rw[U,e2],rfl⟩,.inl ⟨by rw[U,e3],rfl⟩⟩
 have J:Hid (∀ Y q6 (x:Cm),t.settle s= {t with com:=some x}->t.com=none->w.heap.size<=q6->aA Y q6 (sE s x) 276->At1 q w Y (IB s t (.pointer (some ⟨q1,0,.none⟩)) (.pointer (some ⟨q2,0,.none⟩)) (ptrV t.undo q3) (.pointer (some ⟨q6,0,.none⟩))) 249->JK q q1 q2 q3 q4 s t w Y (.returned (.tuple #[]))):=hd' fun Y q6 x U e2 h6 hx hA=>⟨rfl,hA.only,q3,q6,by rw[U];exact hA.row,.inl ⟨by rw[U],rfl⟩,.inr ⟨e2,h6,x,by rw[U],hx⟩⟩
 have L:Hid (∀ Y q5 (x:Un),t.settle s= {t with undo:=some x}->t.undo=none->w.heap.size<=q5->aA Y q5 (rG s x) 274->At1 q w Y (IB s t (.pointer (some ⟨q1,0,.none⟩)) (.pointer (some ⟨q2,0,.none⟩)) (.pointer (some ⟨q5,0,.none⟩)) (ptrV t.com q4)) 249->JK q q1 q2 q3 q4 s t w Y (.returned (.tuple #[]))):=hd' fun Y q5 x U e2 h5 hx hA=>⟨rfl,hA.only,q5,q4,by rw[U];exact hA.row,.inr ⟨e2,h5,x,by rw[U],hx⟩,.inl ⟨by rw[U],rfl⟩⟩
 have b2:=hd' (oI hr);have bj:=fun Y (hY:Below w.heap.size w Y)=>pL (hr.only (Only.of_below (F:=fun _=>False) hY) (fun _ _ e=>e));have bh:=fun Y (hY:Below w.heap.size w Y)=>WO q2 _ f.done Y (hf.below hY) rfl;have bi:=fun Y (hY:Below w.heap.size w Y)=>gL q2 _ f.gave Y (hf.below hY) rfl;have b3:∀ Y,jW w Y->jK 159 #[ptrV t.undo q3] Y fun e w'=>e= .returned (.bool (ED t.undo))/\w'=Y:=fun Y hY=>by
  rcases h:t.undo with _|u
  ·exact ZU Y
  exact zx6 q3 _ u.done Y ((hu u h).below hY) rfl
 have b1:∀ Y,jW w Y->jK 160 #[ptrV t.com q4] Y fun e w'=>e= .returned (.bool (pF t.com))/\w'=Y:=fun Y hY=>by
  rcases h:t.com with _|u
  ·exact dU Y
  exact YU q4 _ u.done Y ((hc u h).below hY) rfl
 have y:=fun x Y (hY:aA Y q (IB s t (.pointer (some ⟨q1,0,.none⟩)) (.pointer (some ⟨q2,0,.none⟩)) (ptrV t.undo q3) (ptrV t.com q4)) 249)=>sW q s t _ _ _ _ x Y hY;have D:=fun b W=>JW s t.c b W;have G:=fun b W=>z3q s t.c b W;clear hr hf hu hc bn b8;generalize r.done=rd at *;generalize f.done=fd at *;generalize f.gave=fg at *;unfold gotV at b2;generalize cb:r.got=og at *;obtain⟨sp,sc,sm⟩:=s;obtain⟨tc,bq,bf,H,T,bp,bc⟩:=t;dsimp only at C b3 b1 y o J L D G;obtain⟨vu,S⟩:∃ v,v=ptrV H q3:=⟨_,rfl⟩;obtain⟨vc,b0⟩:∃ v,v=ptrV T q4:=⟨_,rfl⟩;rw[<-S]at h0 o J b3 y;rw[<-b0]at h0 o L b1 y;replace S:=hd' S;replace b0:=hd' b0;generalize ED H=ud at *;generalize pF T=cd at *;obtain⟨blk,R⟩:∃ b,b=og.getD Blk.zero:=⟨_,rfl⟩;rw[<-R]at b2;obtain⟨bb,z⟩:∃ b,b=og.isSome:=⟨_,rfl⟩;rw[<-z]at b2;replace z:=hd' z;replace R:=hd' R;obtain⟨i,l,m,bk,j⟩:=blk;dsimp only[QF]at b2;replace bj:=hd' bj;replace bh:=hd' bh;replace bi:=hd' bi;replace b3:=hd' b3;replace b1:=hd' b1;replace y:=hd' y;replace D:=hd' D;replace G:=hd' G;replace C:=hd' C;have c5:=h0.cell;go_in;go_upto_region 2 with(go_at_call 158;(with_reducible refine b2.out.mono ?_);rintro r w1 ⟨rfl,bg⟩);have I:=bg.trans ((Below.refl w.heap.size w1).alloc bg.size (.cells #[i,l,m,bk,j] 234));have hE:aA (w1.alloc (.cells #[i,l,m,bk,j] 234)) w1.heap.size #[i,l,m,bk,j] 234:=jA _ _;have c7:w.heap.size<=w1.heap.size:=bg.size;generalize w1.alloc (.cells #[i,l,m,bk,j] 234)=X at *;obtain⟨E,c6,bm⟩:=hidv w1.heap.size;simp only[<-bm]at hE c7 ⊢;have c4:E≠q:=fun e=>by have:=h0.lt;omega
 clear bm c6 c5 b2 bg;have M:=h0.below I;have lX:=M.lt;have lE:=hE.lt;have c8:=M.cell;replace I:=hd' I;have N:=hd' (b3 X I.out);have O:=hd' (b1 X I.out);have V:=hd' (bj X I.out);have bs:=hd' (bh X I.out);have bz:=hd' (bi X I.out);clear b3 b1 bj bh bi;rcases C.out with⟨rfl,hs⟩|⟨rfl,rfl,hs⟩|⟨rfl,rfl,rfl,hs⟩|⟨rfl,rfl,rfl,rfl,hs⟩|⟨b,rfl,rfl,rfl,rfl,hw,hs⟩|⟨b,rfl,rfl,rfl,rfl,U,e2,rfl,rfl,hs⟩|⟨b,rfl,rfl,rfl,rfl,U,e2,rfl,rfl,hs⟩;case inl=>clear C D G J L;replace hs:=hd' hs;go_wp2_with (first|(go_at_call 159;(with_reducible refine N.out.mono ?_);rintro r w2 ⟨rfl,n⟩;obtain rfl:=n.symm)|(go_at_call 150;(with_reducible refine(y _ _ M.row).mono ?_);rintro r w7 hT;obtain rfl:=hT.ret));go_returns;exact o _ _ hs rfl rfl (M.turned hT)
 case inr.inl=>clear C D G J L;replace hs:=hd' hs;go_wp2_with (first|(go_at_call 159;(with_reducible refine N.out.mono ?_);rintro r w2 ⟨rfl,n⟩;obtain rfl:=n.symm)|(go_at_call 160;(with_reducible refine O.out.mono ?_);rintro r w3 ⟨rfl,p⟩;obtain rfl:=p.symm)|(go_at_call 150;(with_reducible refine(y _ _ M.row).mono ?_);rintro r w7 hT;obtain rfl:=hT.ret));go_returns;exact o _ _ hs rfl rfl (M.turned hT)
 case inr.inr.inl=>clear C D G J L;replace hs:=hd' hs;go_wp2_with (first|(go_at_call 159;(with_reducible refine N.out.mono ?_);rintro r w2 ⟨rfl,n⟩;obtain rfl:=n.symm)|(go_at_call 160;(with_reducible refine O.out.mono ?_);rintro r w3 ⟨rfl,p⟩;obtain rfl:=p.symm)|(go_at_call 161;(with_reducible refine V.out.mono ?_);rintro r w4 ⟨rfl,B⟩;obtain rfl:=B.symm));go_returns;exact o _ _ hs rfl rfl M
 case inr.inr.inr.inl=>clear C D G J L;replace hs:=hd' hs;replace z:Hid (bb=false):=hd' z.out;obtain rfl:bb=false:=z.out;go_wp2_with (first|(go_at_call 159;(with_reducible refine N.out.mono ?_);rintro r w2 ⟨rfl,n⟩;obtain rfl:=n.symm)|(go_at_call 160;(with_reducible refine O.out.mono ?_);rintro r w3 ⟨rfl,p⟩;obtain rfl:=p.symm)|(go_at_call 161;(with_reducible refine V.out.mono ?_);rintro r w4 ⟨rfl,B⟩;obtain rfl:=B.symm)|(go_at_call 150;(with_reducible refine(y _ _ M.row).mono ?_);rintro r w7 hT;obtain rfl:=hT.ret));go_returns;exact o _ _ hs rfl rfl (M.turned hT)
 case inr.inr.inr.inr.inl=>
  clear C D G J L;replace hs:=hd' hs;obtain rfl:bb=true:=z.out;rcases hw with hw|⟨bw,n⟩|⟨bw,n,p⟩
  ·obtain rfl:vu= .pointer (some ⟨q3,0,.none⟩):=by
    rcases H with _|u
    ·exact absurd rfl hw
    exact S.out
   go_wp2_with (first|(go_at_call 159;(with_reducible refine N.out.mono ?_);rintro r w2 ⟨rfl,n⟩;obtain rfl:=n.symm)|(go_at_call 160;(with_reducible refine O.out.mono ?_);rintro r w3 ⟨rfl,p⟩;obtain rfl:=p.symm)|(go_at_call 161;(with_reducible refine V.out.mono ?_);rintro r w4 ⟨rfl,B⟩;obtain rfl:=B.symm));go_returns;exact o _ _ hs rfl rfl M
  ·obtain rfl:vu= .pointer none:=by rw[S,bw];rfl
   obtain rfl:vc= .pointer (some ⟨q4,0,.none⟩):=by
    rcases T with _|u
    ·exact absurd rfl n
    exact b0.out
   go_wp2_with (first|(go_at_call 159;(with_reducible refine N.out.mono ?_);rintro r w2 ⟨rfl,n⟩;obtain rfl:=n.symm)|(go_at_call 160;(with_reducible refine O.out.mono ?_);rintro r w3 ⟨rfl,p⟩;obtain rfl:=p.symm)|(go_at_call 161;(with_reducible refine V.out.mono ?_);rintro r w4 ⟨rfl,B⟩;obtain rfl:=B.symm));go_returns;exact o _ _ hs rfl rfl M
  obtain rfl:vu= .pointer none:=by rw[S,bw];rfl
  obtain rfl:vc= .pointer none:=by rw[b0,n];rfl
  subst p;go_wp2_with (first|(go_at_call 159;(with_reducible refine N.out.mono ?_);rintro r w2 ⟨rfl,n⟩;obtain rfl:=n.symm)|(go_at_call 160;(with_reducible refine O.out.mono ?_);rintro r w3 ⟨rfl,p⟩;obtain rfl:=p.symm)|(go_at_call 161;(with_reducible refine V.out.mono ?_);rintro r w4 ⟨rfl,B⟩;obtain rfl:=B.symm)|(go_at_call 162;(with_reducible refine bs.out.mono ?_);rintro r w5 ⟨rfl,ba⟩;obtain rfl:=ba.symm));go_returns;exact o _ _ hs rfl rfl M
 case inr.inr.inr.inr.inr.inl=>
  clear C y o;replace hs:=hd' hs;obtain rfl:bb=true:=z.out;obtain rfl:vu= .pointer none:=by rw[S,U];rfl
  obtain rfl:vc= .pointer none:=by rw[b0,e2];rfl
  have bu:b=⟨i,l,m,bk,j⟩:=R.out.symm;subst bu;have gn:=D ⟨i,l,m,bk,j⟩;dsimp only at gn;replace gn:=hd' gn;replace bv:=hd' (fun Y q0 x=>J Y q0 x);clear D G J L;go_upto_region 11 with(first|(go_at_call 159;(with_reducible refine N.out.mono ?_);rintro r w2 ⟨rfl,n⟩;obtain rfl:=n.symm)|(go_at_call 160;(with_reducible refine O.out.mono ?_);rintro r w3 ⟨rfl,p⟩;obtain rfl:=p.symm)|(go_at_call 161;(with_reducible refine V.out.mono ?_);rintro r w4 ⟨rfl,B⟩;obtain rfl:=B.symm)|(go_at_call 162;(with_reducible refine bs.out.mono ?_);rintro r w5 ⟨rfl,ba⟩;obtain rfl:=ba.symm)|(go_at_call 163;(with_reducible refine bz.out.mono ?_);rintro r w6 ⟨rfl,bx⟩;obtain rfl:=bx.symm));have b6:At1 q w X.drew _ _:=⟨M.row.drew,M.only.drew,M.ls⟩;have b5:=hE.drew;have hS:=hd' (fun (Y:World) (v:Value) (h:aA Y q (IB ⟨sp,sc,sm⟩ ⟨tc,bq,bf,H,T,bp,bc⟩ (.pointer (some ⟨q1,0,.none⟩)) (.pointer (some ⟨q2,0,.none⟩)) (.pointer none) v) 249) (h2:aA Y E #[i,l,m,bk,j] 234)=>(⟨h.cell 0,h.cell 1,h.cell 2,h.cell 3,h2.cell 0,h2.cell 1,h2.cell 2,h2.cell 3,h2.cell 4⟩:Y.cell? ⟨q,0,.none⟩=some (.int .i64 sp)/\Y.cell? ⟨q,1,.none⟩=some (.int .i64 sc)/\Y.cell? ⟨q,2,.none⟩=some (.int .i64 sm)/\Y.cell? ⟨q,3,.none⟩=some (.int .i64 tc)/\Y.cell? ⟨E,0,.none⟩=some (.bool i)/\Y.cell? ⟨E,1,.none⟩=some (.int .i64 l)/\Y.cell? ⟨E,2,.none⟩=some (.int .i64 m)/\Y.cell? ⟨E,3,.none⟩=some (.int .i64 bk)/\Y.cell? ⟨E,4,.none⟩=some (.int .i64 j)))
  go_region_held3 (fun Y=>Y.cell? ⟨q,0,.none⟩=some (.int .i64 sp)/\Y.cell? ⟨q,1,.none⟩=some (.int .i64 sc)/\Y.cell? ⟨q,2,.none⟩=some (.int .i64 sm)/\Y.cell? ⟨q,3,.none⟩=some (.int .i64 tc)/\Y.cell? ⟨E,0,.none⟩=some (.bool i)/\Y.cell? ⟨E,1,.none⟩=some (.int .i64 l)/\Y.cell? ⟨E,2,.none⟩=some (.int .i64 m)/\Y.cell? ⟨E,3,.none⟩=some (.int .i64 bk)/\Y.cell? ⟨E,4,.none⟩=some (.int .i64 j))
   (first|exact hS _ _ b6.row b5|exact hS _ _ hC.row b4|exact hS _ _ ((hC.set 7 _).row.cast rfl) (b4.other c4 _ _))
   (first|(go_at_call 164;refine(gn _).mono ?_;rintro r w6 ⟨q6,rfl,b9,Z,b7⟩;have hC:=b6.below b7;have b4:=b5.below b7;have c9:=hC.cell;have zf:=hC.free))
  go_wp2_with fail;go_returns;exact bv _ q6 _ hs e2 (Nat.le_trans I.out.size b9) (Z.other (by have h1:=M.lt;have h2:X.heap.size<=q6:=b9;omega) _ _) (hC.set 7 _)
 case inr.inr.inr.inr.inr.inr=>
  clear C y o;replace hs:=hd' hs;obtain rfl:bb=true:=z.out;obtain rfl:vu= .pointer none:=by rw[S,U];rfl
  obtain rfl:vc= .pointer none:=by rw[b0,e2];rfl
  have bu:b=⟨i,l,m,bk,j⟩:=R.out.symm;subst bu;have gn:=G ⟨i,l,m,bk,j⟩;dsimp only at gn;replace gn:=hd' gn;replace bv:=hd' (fun Y q0 x=>L Y q0 x);clear D G J L;go_upto_region 1 with(first|(go_at_call 159;(with_reducible refine N.out.mono ?_);rintro r w2 ⟨rfl,n⟩;obtain rfl:=n.symm)|(go_at_call 160;(with_reducible refine O.out.mono ?_);rintro r w3 ⟨rfl,p⟩;obtain rfl:=p.symm)|(go_at_call 161;(with_reducible refine V.out.mono ?_);rintro r w4 ⟨rfl,B⟩;obtain rfl:=B.symm)|(go_at_call 162;(with_reducible refine bs.out.mono ?_);rintro r w5 ⟨rfl,ba⟩;obtain rfl:=ba.symm)|(go_at_call 163;(with_reducible refine bz.out.mono ?_);rintro r w6 ⟨rfl,bx⟩;obtain rfl:=bx.symm));have b6:At1 q w X.drew _ _:=⟨M.row.drew,M.only.drew,M.ls⟩;have b5:=hE.drew;have hS:=hd' (fun (Y:World) (v:Value) (h:aA Y q (IB ⟨sp,sc,sm⟩ ⟨tc,bq,bf,H,T,bp,bc⟩ (.pointer (some ⟨q1,0,.none⟩)) (.pointer (some ⟨q2,0,.none⟩)) v (.pointer none)) 249) (h2:aA Y E #[i,l,m,bk,j] 234)=>(⟨h.cell 0,h.cell 1,h.cell 2,h.cell 3,h2.cell 0,h2.cell 1,h2.cell 2,h2.cell 3,h2.cell 4⟩:Y.cell? ⟨q,0,.none⟩=some (.int .i64 sp)/\Y.cell? ⟨q,1,.none⟩=some (.int .i64 sc)/\Y.cell? ⟨q,2,.none⟩=some (.int .i64 sm)/\Y.cell? ⟨q,3,.none⟩=some (.int .i64 tc)/\Y.cell? ⟨E,0,.none⟩=some (.bool i)/\Y.cell? ⟨E,1,.none⟩=some (.int .i64 l)/\Y.cell? ⟨E,2,.none⟩=some (.int .i64 m)/\Y.cell? ⟨E,3,.none⟩=some (.int .i64 bk)/\Y.cell? ⟨E,4,.none⟩=some (.int .i64 j)))
  go_region_held3 (fun Y=>Y.cell? ⟨q,0,.none⟩=some (.int .i64 sp)/\Y.cell? ⟨q,1,.none⟩=some (.int .i64 sc)/\Y.cell? ⟨q,2,.none⟩=some (.int .i64 sm)/\Y.cell? ⟨q,3,.none⟩=some (.int .i64 tc)/\Y.cell? ⟨E,0,.none⟩=some (.bool i)/\Y.cell? ⟨E,1,.none⟩=some (.int .i64 l)/\Y.cell? ⟨E,2,.none⟩=some (.int .i64 m)/\Y.cell? ⟨E,3,.none⟩=some (.int .i64 bk)/\Y.cell? ⟨E,4,.none⟩=some (.int .i64 j))
   (first|exact hS _ _ b6.row b5|exact hS _ _ hC.row b4|exact hS _ _ ((hC.set 6 _).row.cast rfl) (b4.other c4 _ _))
   (first|(go_at_call 165;refine(gn _).mono ?_;rintro r w6 ⟨q6,rfl,b9,Z,b7⟩;have hC:=b6.below b7;have b4:=b5.below b7;have ca:=hC.cell;have zf:=hC.free))
  go_wp2_with fail;go_returns;exact bv _ q6 _ hs U (Nat.le_trans I.out.size b9) (Z.other (by have h1:=M.lt;have h2:X.heap.size<=q6:=b9;omega) _ _) (hC.set 6 _)
theorem ztt{S:Nat->Prop}(q q1:Nat)(s:Sh)(t:Rr)(r:Rs)(v2 v3 v4:Value)(w:World)(O:aA w q (IB s t (.pointer (some ⟨q1,0,.none⟩)) v2 v3 v4) 249)(R:RsO S w q1 s r)(hd:t.done=true)(N:t.err=0):
  Calls Tryz.prog 252 #[some q] w fun e w'=>e= .returned (gotV r.got)/\Below w.heap.size w w':=by
 have n:=fun Y (hY:Below w.heap.size w Y)=>oI (R.only (Only.of_below (F:=fun _=>False) hY) (fun _ _ e=>e));clear R;unfold gotV at n ⊢;generalize r.got.getD Blk.zero=blk at *;generalize r.got.isSome=L at *;obtain⟨b,j,l,y,i⟩:=blk;dsimp only[QF]at n ⊢;replace n:=hd' n;have C:=(Below.refl w.heap.size w).alloc lr (.cells #[.bool false,.int .i64 0,.int .i64 0,.int .i64 0,.int .i64 0] 234);have H:aA (w.alloc (.cells #[.bool false,.int .i64 0,.int .i64 0,.int .i64 0,.int .i64 0] 234)) w.heap.size #[.bool false,.int .i64 0,.int .i64 0,.int .i64 0,.int .i64 0] 234:=jA _ _;go_in;go_upto_region 1 with fail;generalize w.alloc (.cells #[.bool false,.int .i64 0,.int .i64 0,.int .i64 0,.int .i64 0] 234)=X at *;obtain⟨E,Z,z⟩:=hidv w.heap.size;simp only[<-z]at H ⊢;have m:w.heap.size<=E:=by omega
 clear z;have lE:=H.lt;have o:=O.below C;have c9:X.cell? ⟨q,9,.none⟩=some (.bool true):=by rw[<-hd];exact o.cell 9
 have c8:X.cell? ⟨q,8,.none⟩=some (.int .i64 0):=by rw[<-N];exact o.cell 8
 have T:=o.cell;clear hd N O o;go_wp2_with (first|(go_at_call 158;(with_reducible refine(n _ C).mono ?_);rintro r M ⟨rfl,G⟩;have I:=xA C G;have B:=H.below G;have V:=B.cell;have ef:=GA B));have D:aA (((((M.setCell ⟨E,0,.none⟩ (.bool b)).setCell ⟨E,1,.none⟩ (.int .i64 j)).setCell ⟨E,2,.none⟩ (.int .i64 l)).setCell ⟨E,3,.none⟩ (.int .i64 y)).setCell ⟨E,4,.none⟩ (.int .i64 i)) E #[b,j,l,y,i] 234:=(((((B.set 0 (.bool b)).set 1 (.int .i64 j)).set 2 (.int .i64 l)).set 3 (.int .i64 y)).set 4 (.int .i64 i));have J:Below w.heap.size w (((((M.setCell ⟨E,0,.none⟩ (.bool b)).setCell ⟨E,1,.none⟩ (.int .i64 j)).setCell ⟨E,2,.none⟩ (.int .i64 l)).setCell ⟨E,3,.none⟩ (.int .i64 y)).setCell ⟨E,4,.none⟩ (.int .i64 i)):=(((((I.setCell (p:=⟨E,0,.none⟩) m (.bool b)).setCell (p:=⟨E,1,.none⟩) m (.int .i64 j)).setCell (p:=⟨E,2,.none⟩) m (.int .i64 l)).setCell (p:=⟨E,3,.none⟩) m (.int .i64 y)).setCell (p:=⟨E,4,.none⟩) m (.int .i64 i));generalize ((((M.setCell ⟨E,0,.none⟩ (.bool b)).setCell ⟨E,1,.none⟩ (.int .i64 j)).setCell ⟨E,2,.none⟩ (.int .i64 l)).setCell ⟨E,3,.none⟩ (.int .i64 y)).setCell ⟨E,4,.none⟩ (.int .i64 i)=U at *;have r0:=ce (.bool b) (D.cell 0);have r1:=ci j (D.cell 1);have r2:=ci l (D.cell 2);have r3:=ci y (D.cell 3);have r4:=ci i (D.cell 4);exact bodyPost_ret (v:= .tuple #[.agg #[b,j,l,y,i],L]) (by simp[results,Tryz.results252,go_sem,r0,r1,r2,r3,r4]) rfl ⟨rfl,J⟩
theorem zyb(q:Nat)(s:Sh)(t:Rr)(H I J L:Value)(w:World)(z:aA w q (IB s t H I J L) 249)(y:t.done=false\/t.err≠0):
  Calls Tryz.prog 252 #[some q] w fun e w'=>e= .returned (gotV none)/\Below w.heap.size w w':=by
 have r:t.done=false\/(t.done=true/\(t.err==0)=false):=by
  cases h:t.done
  ·exact .inl rfl
  exact .inr ⟨rfl,by simpa[h] using y⟩
 have n:=(Below.refl w.heap.size w).alloc lr (.cells #[.bool false,.int .i64 0,.int .i64 0,.int .i64 0,.int .i64 0] 234);have i:aA (w.alloc (.cells #[.bool false,.int .i64 0,.int .i64 0,.int .i64 0,.int .i64 0] 234)) w.heap.size #[.bool false,.int .i64 0,.int .i64 0,.int .i64 0,.int .i64 0] 234:=jA _ _;go_in;go_upto_region 1 with fail;generalize w.alloc (.cells #[.bool false,.int .i64 0,.int .i64 0,.int .i64 0,.int .i64 0] 234)=X at *;obtain⟨E,B,j⟩:=hidv w.heap.size;simp only[<-j]at i ⊢;have b:w.heap.size<=E:=by omega
 clear j;have V:=i.lt;have l:=z.below n;have M:=ce (.bool false) (i.cell 0);have N:=ci 0 (i.cell 1);have O:=ci 0 (i.cell 2);have R:=ci 0 (i.cell 3);have S:=ci 0 (i.cell 4);have T:=GA i;have c9:=ce (.bool t.done) (l.cell 9);have c8:=ci t.err (l.cell 8);clear y z l;generalize t.done=Y at *;generalize t.err=Z at *;rcases r with rfl|⟨rfl,C⟩;all_goals go_wp2_with fail;have m:aA (((((X.setCell ⟨E,0,.none⟩ (.bool false)).setCell ⟨E,1,.none⟩ (.int .i64 0)).setCell ⟨E,2,.none⟩ (.int .i64 0)).setCell ⟨E,3,.none⟩ (.int .i64 0)).setCell ⟨E,4,.none⟩ (.int .i64 0)) E #[.bool false,.int .i64 0,.int .i64 0,.int .i64 0,.int .i64 0] 234:=(((((i.set 0 (.bool false)).set 1 (.int .i64 0)).set 2 (.int .i64 0)).set 3 (.int .i64 0)).set 4 (.int .i64 0));have o:Below w.heap.size w (((((X.setCell ⟨E,0,.none⟩ (.bool false)).setCell ⟨E,1,.none⟩ (.int .i64 0)).setCell ⟨E,2,.none⟩ (.int .i64 0)).setCell ⟨E,3,.none⟩ (.int .i64 0)).setCell ⟨E,4,.none⟩ (.int .i64 0)):=(((((n.setCell (p:=⟨E,0,.none⟩) b (.bool false)).setCell (p:=⟨E,1,.none⟩) b (.int .i64 0)).setCell (p:=⟨E,2,.none⟩) b (.int .i64 0)).setCell (p:=⟨E,3,.none⟩) b (.int .i64 0)).setCell (p:=⟨E,4,.none⟩) b (.int .i64 0));generalize ((((X.setCell ⟨E,0,.none⟩ (.bool false)).setCell ⟨E,1,.none⟩ (.int .i64 0)).setCell ⟨E,2,.none⟩ (.int .i64 0)).setCell ⟨E,3,.none⟩ (.int .i64 0)).setCell ⟨E,4,.none⟩ (.int .i64 0)=U at *;have r0:=ce (.bool false) (m.cell 0);have r1:=ci 0 (m.cell 1);have D:=ci 0 (m.cell 2);have F:=ci 0 (m.cell 3);have G:=ci 0 (m.cell 4);exact bodyPost_ret (v:= .tuple #[.agg #[.bool false,.int .i64 0,.int .i64 0,.int .i64 0,.int .i64 0],.bool false]) (by simp[results,Tryz.results252,go_sem,r0,r1,D,F,G]) rfl ⟨rfl,o⟩
end

section

attribute [local go_sem] IB

open Go.RowKit

def RrO (F:Nat->Prop) (w:World) (q:Nat) (s:Sh) (t:Rr):Prop:=
 (∀ k,F k->k < w.heap.size)/\F q/\∃ q1 q2 q3 q4 F1 F2,(∀ k,F1 k->F k/\k≠q)/\(∀ k,F2 k->F k/\k≠q/\¬ F1 k)/\
  aA w q (IB s t (ptrV t.res q1) (ptrV t.free q2) (ptrV t.undo q3) (ptrV t.com q4)) 249/\
  (∀ x,t.res=some x->RsO F1 w q1 s x)/\(∀ x,t.free=some x->FeO F2 w q2 s x)/\
  (∀ x,t.undo=some x->(F q3/\q3≠q/\¬ F1 q3/\¬ F2 q3)/\aA w q3 (rG s x) 274)/\
  (∀ x,t.com=some x->(F q4/\q4≠q/\¬ F1 q4/\¬ F2 q4)/\aA w q4 (sE s x) 276)
theorem IE{F:Nat->Prop}{w w':World}(h:∀ k,F k->k<w.heap.size)(hs:w.heap.size<=w'.heap.size):∀ k,grow F w w' k->k<w'.heap.size:=fun k e=>e.elim (fun e=>Nat.lt_of_lt_of_le (h k e) hs) (fun e=>e.2)
theorem RrO.settled{F:Nat->Prop}{w:World}{q:Nat}{s:Sh}{t:Rr}(h:RrO F w q s t){r:Rs}{f:Fe}(l:t.res=some r)(i:t.free=some f):
  Calls Tryz.prog 151 #[some q] w fun e w'=>e= .returned (.tuple #[])/\Only (fun k=>k=q) w w'/\RrO (grow F w w') w' q s (t.settle s):=by
 obtain⟨z,h1,q1,q2,q3,q4,T,U,m,n,p,S,R,hu,hc⟩:=h;have N:=R f i;obtain⟨f1,Z,f2,f3⟩:=N;have B:aA w q (IB s t (.pointer (some ⟨q1,0,.none⟩)) (.pointer (some ⟨q2,0,.none⟩)) (ptrV t.undo q3) (ptrV t.com q4)) 249:=by rw[l,i]at p;exact p
 refine(ztq q q1 q2 q3 q4 s t r f (ptrV f.put Z) w l i B (S r l) f2.row (fun x j=>(hu x j).2) (fun x j=>(hc x j).2)).mono fun e w' hS=>?_;obtain⟨X,Y,V,E,G⟩:=hS.at';have O:=hS.only.size;have er:(t.settle s).res=t.res/\(t.settle s).free=t.free:=by rcases LF s t r f l i with⟨_,e⟩|⟨_,_,e⟩|⟨_,_,_,e⟩|⟨_,_,_,_,e⟩|⟨b,_,_,_,_,_,e⟩|⟨b,_,_,_,_,_,_,_,_,e⟩|⟨b,_,_,_,_,_,_,_,_,e⟩<;>rw[e]<;>exact⟨rfl,rfl⟩
 refine⟨hS.ret,hS.only,IE z O,.inl h1,q1,q2,X,Y,T,U,fun k o=>⟨.inl (m k o).1,(m k o).2⟩,fun k o=>⟨.inl (n k o).1,(n k o).2⟩,?_,?_,?_,?_,?_⟩
 ·rw[er.1,er.2,l,i];exact V
 ·intro x j;rw[er.1]at j;exact(S x j).only hS.only (fun k o=>(m k o).2)
 ·intro x j;rw[er.2]at j;exact(R x j).only hS.only (fun k o=>(n k o).2.1)
 ·intro x j;rcases E with⟨E,rfl⟩|⟨E,L,y,M,D⟩
  ·rw[E]at j;obtain⟨⟨a1,C,H,I⟩,J⟩:=hu x j;exact⟨⟨.inl a1,C,H,I⟩,J.only hS.only C⟩
  rw[M]at j;injection j with j;subst j;exact⟨⟨.inr ⟨L,D.lt⟩,fun e=>by have:=z q h1;omega,fun e=>by have:=z _ (m _ e).1;omega,fun e=>by have:=z _ (n _ e).1;omega⟩,D⟩
 intro x j;rcases G with⟨G,rfl⟩|⟨G,L,y,M,D⟩
 ·rw[G]at j;obtain⟨⟨a1,C,H,I⟩,J⟩:=hc x j;exact⟨⟨.inl a1,C,H,I⟩,J.only hS.only C⟩
 rw[M]at j;injection j with j;subst j;exact⟨⟨.inr ⟨L,D.lt⟩,fun e=>by have:=z q h1;omega,fun e=>by have:=z _ (m _ e).1;omega,fun e=>by have:=z _ (n _ e).1;omega⟩,D⟩
structure rrOk (s:Sh) (t:Rr):Prop where
 cl:t.done=false->∃ r f,t.res=some r/\t.free=some f/\((∀ x,r.seeker=some x->skOk s x)/\(∀ x,r.runner=some x->rnOk s x))/\feOk s f/\(∀ u,t.undo=some u->unOk s u)/\(∀ u,t.com=some u->cmOk s u)/\(t.undo=none\/t.com=none)/\(r.done=true->f.done=true->t.undo≠none\/t.com≠none)
theorem RrO.gQ{F:Nat->Prop}{q p b:Nat}{s:Sh}{t:Rr}{m:Mem}{w:World}(h:RrO F w q s t){r:Rs}(o:t.res=some r)(Y:oA w p b m)(N:¬ F p)(hb:¬ F b)(T:Fits s m)(U:(∀ x,r.seeker=some x->skOk s x)/\(∀ x,r.runner=some x->rnOk s x))(hs:m.st<1000000000):
  ∃ q1,w.cell? ⟨q,4,.none⟩=some (.pointer (some ⟨q1,0,.none⟩))/\Calls Tryz.prog 214 #[.pointer (some ⟨q1,0,.none⟩),some p] w fun e w'=>YB F p b w w' e (yB s r m).2/\RrO (grow F w w') w' q s {t with res:=some (yB s r m).1}:=by
 obtain⟨L,h1,q1,q2,q3,q4,E,R,j,l,B,X,M,hu,hc⟩:=h;have c4:=ce (ptrV t.res q1) (B.cell 4);rw[o]at c4;refine⟨q1,c4,(UU (X r o) Y (fun e=>N (j p e).1) (fun e=>hb (j b e).1) T U hs).mono fun e w' hS=>?_⟩;obtain⟨z,S⟩:=hS;have O:=z.only.size;have V:¬ (E q\/q=p\/q=b):=by
  rintro(e|e|e)
  ·exact(j q e).2 rfl
  ·exact N (e ▸ h1)
  exact hb (e ▸ h1)
 have n:∀ k,F k->¬ E k->¬ (E k\/k=p\/k=b):=fun k i C e=>by
  rcases e with e|e|e
  ·exact C e
  ·exact N (e ▸ i)
  exact hb (e ▸ i)
 have D:∀ k,F k->¬ E k->¬ grow E w w' k:=fun k i C e=>by
  rcases e with e|e
  ·exact C e
  have:=L k i;omega
 refine⟨⟨z.ret,z.wds,z.only.weak fun k i=>i.imp (fun e=>(j k e).1) id⟩,IE L O,.inl h1,q1,q2,q3,q4,grow E w w',R,fun k i=>?_,fun k i=>⟨.inl (l k i).1,(l k i).2.1,D k (l k i).1 (l k i).2.2⟩,?_,?_,?_,?_,?_⟩
 ·rcases i with i|i
  ·exact⟨.inl (j k i).1,(j k i).2⟩
  exact⟨.inr i,fun e=>by have:=L q h1;omega⟩
 ·have:=B.only z.only V;rw[o]at this;exact this
 ·intro x y;injection y with y;subst y;exact S
 ·intro x y;exact(M x y).only z.only (fun k i=>n k (l k i).1 (l k i).2.2)
 ·intro x y;obtain⟨⟨a1,H,G,I⟩,J⟩:=hu x y;exact⟨⟨.inl a1,H,D _ a1 G,I⟩,J.only z.only (n _ a1 G)⟩
 intro x y;obtain⟨⟨a1,H,G,I⟩,J⟩:=hc x y;exact⟨⟨.inl a1,H,D _ a1 G,I⟩,J.only z.only (n _ a1 G)⟩
end

section

attribute [local go_sem] IB

theorem z6z(s:Sh)(c n f:Int):(∀ x,(CB s c n f).seeker=some x->skOk s x)/\(∀ x,(CB s c n f).runner=some x->rnOk s x):=by
 unfold CB;split
 ·exact⟨fun x b=>(by injection b with b;subst b;exact jX _ _ _ _),fun x b=>(by cases b)⟩
 split
 ·exact⟨fun x b=>(by cases b),fun x b=>(by injection b with b;subst b;exact xX _ _ _)⟩
 exact⟨fun x b=>(by cases b),fun x b=>(by cases b)⟩
theorem FU{s:Sh}{t:Rr}{r:Rs}{f:Fe}(j:t.res=some r)(i:t.free=some f)(m:(∀ x,r.seeker=some x->skOk s x)/\(∀ x,r.runner=some x->rnOk s x))(l:feOk s f)(o:∀ u,t.undo=some u->unOk s u)(n:∀ u,t.com=some u->cmOk s u)(p:t.undo=none\/t.com=none):rrOk s (t.settle s):=by
 rcases LF s t r f j i with⟨_,e⟩|⟨_,_,e⟩|⟨_,_,h3,e⟩|⟨_,_,_,_,e⟩|⟨b,_,_,_,_,B,e⟩|⟨b,_,_,_,_,q,y,_,_,e⟩|⟨b,_,_,_,_,q,y,_,_,e⟩;all_goals rw[e]
 ·exact⟨fun h=>by cases h⟩
 ·exact⟨fun h=>by cases h⟩
 ·exact⟨fun _=>⟨r,f,j,i,m,l,o,n,p,fun h=>by rw[h3]at h;cases h⟩⟩
 ·exact⟨fun h=>by cases h⟩
 ·refine⟨fun _=>⟨r,f,j,i,m,l,o,n,p,fun _ z=>?_⟩⟩;rcases B with h|⟨_,h⟩|⟨_,_,h⟩
  ·exact .inl h
  ·exact .inr h
  rw[h]at z;cases z
 ·exact⟨fun _=>⟨r,f,j,i,m,l,o,fun u hu=>by injection hu with hu;subst hu;exact LP _ _ _,.inl q,fun _ _=>.inr (fun h=>by cases h)⟩⟩
 exact⟨fun _=>⟨r,f,j,i,m,l,fun u hu=>by injection hu with hu;subst hu;exact z8l _ _ _,n,.inr y,fun _ _=>.inl (fun h=>by cases h)⟩⟩
theorem z4q(s:Sh)(c a n first:Int):rrOk s (iD s c a n first):=by
 unfold iD;split
 ·exact FU rfl rfl (z6z _ _ _ _) (gX _ _ _) (fun u hu=>by cases hu) (fun u hu=>by cases hu) (.inl rfl)
 exact⟨fun h=>by cases h⟩
end

end Go.Proofs.YtkilokkopbajkaaGreat
