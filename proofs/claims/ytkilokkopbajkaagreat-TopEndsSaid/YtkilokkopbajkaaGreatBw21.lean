
import Derived.Test.YtkilokkopbajkaaGreatBw20

set_option linter.all false
set_option maxHeartbeats 4000000
set_option maxRecDepth 100000
namespace Go.Proofs.YtkilokkopbajkaaGreat

open RowKit

attribute [local go_sem ↓] wp_at_zero wp_at_succ

attribute [local go_sem] YA xE aG AG

section

def KB (s:Sh) (t:Rr) (v1 v2 v3 v4:Value):Array Value:=#[s.p,s.c,s.m,t.c,v1,v2,v3,v4,t.err,t.done]
attribute [local go_sem] KB

def FeO (F:Nat->Prop) (w:World) (q:Nat) (s:Sh) (t:Fe):Prop:=F q/\∃q2,FeAt w q q2 s t/\(t.put≠none->F q2)
theorem FeAt.rK{w w':World}{q q2:Nat}{s:Sh}{t:Fe}{G:Nat->Prop}(h:FeAt w q q2 s t)(f:Only G w w')(h1:¬G q)(h2:t.put≠none->¬G q2):FeAt w' q q2 s t:=
 ⟨h.row.only f h1,λx b=>⟨(h.inn x b).1.only f (h2 (by rw[b];exact λe=>by cases e)),(h.inn x b).2⟩⟩
theorem FeO.only{F G:Nat->Prop}{w w':World}{q:Nat}{s:Sh}{t:Fe}(h:FeO F w q s t)(b:Only G w w')(hd:∀k,F k->¬G k):FeO F w' q s t:=by
 obtain⟨h1,q2,h2,h3⟩:=h;exact⟨h1,q2,h2.rK b (hd q h1) (λe=>hd q2 (h3 e)),h3⟩
theorem sX{F:Nat->Prop}{q p b:Nat}{s:Sh}{t:Fe}{m:Mem}{w:World}(h:FeO F w q s t)(B:oA w p b m)(o:¬F p)(hb:¬F b)(y:Fits s m)(z:feOk s t)(hs:m.st<1000000000):
  Calls Tryz.prog 232 #[some q,some p] w λe w'=>cC F p b w w' e (NB s t m).2/\FeO (grow F w w') w' q s (NB s t m).1:=by
 obtain⟨h1,q2,h2,h3⟩:=h;refine(zyu q q2 p b s t m w h2 B (λe=>o (e▸h1)) (λe=>hb (e▸h1)) (λl=>⟨λe=>o (e▸h3 l),λe=>hb (e▸h3 l)⟩) y z hs).mono λe w' hS=>?_;have l:t.put.isSome=true->F q2:=λe=>h3 (λr=>by rw[r]at e;cases e);obtain⟨q3,h4,i⟩:=hS.at';refine⟨⟨hS.ret,hS.wds,hS.only.weak λk j=>?_⟩,.inl h1,q3,h4,λn=>?_⟩
 .rcases j with rfl|⟨e,rfl⟩|j|j
  .exact .inl h1
  .exact .inl (l e)
  .exact .inr (.inl j)
  exact .inr (.inr j)
 rcases i with⟨rfl,i⟩|i
 .cases hi:t.put.isSome
  .exact absurd (i hi) n
  exact .inl (l hi)
 rcases hq:(NB s t m).1.put with _|x
 .exact absurd hq n
 exact .inr ⟨i,(h4.inn x hq).1.lt⟩
theorem zzc(q:Nat)(cs:Array Value)(v:Bool)(w:World)(h:aA w q cs 249)(b:cs[9]?=some (.bool v)):Calls Tryz.prog 244 #[some q] w λe w'=>e=.returned (.bool v)/\w'=w:=by
 have c:=(h.cell 9).trans b;clear h b;go_in;go_wp2_with fail;go_returns;exact⟨rfl,rfl⟩
theorem zzz(q:Nat)(s:Sh)(t:Rr)(j l m n:Value)(w:World)(b:aA w q (KB s t j l m n) 249):
  Calls Tryz.prog 250 #[some q] w λe w'=>e=.returned (.int .i64 t.err)/\w'=w:=by
 have i:=b.cell;clear b;go_in;go_wp2_with fail;go_returns;exact⟨rfl,rfl⟩
theorem QW(q:Nat)(s:Sh)(t:Rr)(p r y z:Value)(x:Int)(w:World)(l:aA w q (KB s t p r y z) 249):
  Calls Tryz.prog 150 #[some q,x] w λe w'=>Turned q w w' e (KB s {t with err:=x,done:=true} p r y z) 249:=by
 have h0:=At1.start l;clear l;obtain⟨sp,C,D⟩:=s;obtain⟨E,o,i,j,m,n,b⟩:=t;have B:=h0.cell;have F:=h0.free;go_in;go_wp2_with fail;go_returns;exact((h0.set 8 _).set 9 _).fin rfl
theorem zyg(q q2:Nat)(s:Sh)(t:Rr)(f:Fe)(n o p y:Value)(w:World)(j:aA w q (KB s t o (.pointer (some ⟨q2,0,.none⟩)) p y) 249)(i:aA w q2 (YA s f n) 246):
  Calls Tryz.prog 251 #[some q] w λe w'=>e=.returned (.bool f.gave)/\w'=w:=by
 have l:=j.cell;have m:=hd' (UL q2 _ f.gave w i rfl);clear j i;go_in;go_wp2_with (go_at_call 163;(with_reducible refine m.out.mono ?_);rintro r z ⟨rfl,b⟩;obtain rfl:=b.symm);go_returns;exact⟨rfl,rfl⟩
theorem zob(q:Nat)(s:Sh)(t:Rr)(m n o:Value)(w:World)(i:aA w q (KB s t m (.pointer none) n o) 249):
  Calls Tryz.prog 251 #[some q] w λe w'=>e=.returned (.bool false)/\w'=w:=by
 have j:=i.cell;have l:=hd' (zoc w);clear i;go_in;go_wp2_with (go_at_call 163;(with_reducible refine l.out.mono ?_);rintro r p ⟨rfl,b⟩;obtain rfl:=b.symm);go_returns;exact⟨rfl,rfl⟩
def JD (o:Option Un):Bool:=match o with|some u=>u.done|none=>false
def EF (o:Option Cm):Bool:=match o with|some u=>u.done|none=>false
theorem XF(s:Sh)(t:Rr)(r:Rs)(f:Fe)(h1:t.res=some r)(h2:t.free=some f):(JD t.undo=true/\t.settle s={t with err:=1,done:=true})\/(JD t.undo=false/\EF t.com=true/\t.settle s={t with err:=0,done:=true})\/(JD t.undo=false/\EF t.com=false/\r.done=false/\t.settle s=t)\/(JD t.undo=false/\EF t.com=false/\r.done=true/\r.got=none/\t.settle s={t with err:=3,done:=true})\/(∃b,JD t.undo=false/\EF t.com=false/\r.done=true/\r.got=some b/\(t.undo≠none\/(t.undo=none/\t.com≠none)\/(t.undo=none/\t.com=none/\f.done=false))/\t.settle s=t)\/(∃b,JD t.undo=false/\EF t.com=false/\r.done=true/\r.got=some b/\t.undo=none/\t.com=none/\f.done=true/\f.gave=true/\t.settle s={t with com:=some (zB s t.c b)})\/(∃b,JD t.undo=false/\EF t.com=false/\r.done=true/\r.got=some b/\t.undo=none/\t.com=none/\f.done=true/\f.gave=false/\t.settle s={t with undo:=some (UC s t.c b)}):=by
 obtain⟨p,o,m,i,j,n,l⟩:=t;dsimp only at h1 h2;subst h1 h2;unfold Rr.settle JD EF;dsimp only;rcases i with _|u<;>rcases j with _|v
 .cases h3:r.done<;>cases h4:r.got<;>cases h5:f.done<;>cases h6:f.gave<;>simp[*]
 .cases h7:v.done<;>cases h3:r.done<;>cases h4:r.got<;>simp[*]
 .cases h7:u.done<;>cases h3:r.done<;>cases h4:r.got<;>simp[*]
 cases h8:u.done<;>cases h7:v.done<;>cases h3:r.done<;>cases h4:r.got<;>simp[*]
structure uL (q q1 q2 q3 q4:Nat) (s:Sh) (t:Rr) (w w':World) (e:Ending):Prop where
 ret:e=.returned (.tuple #[])
 only:Only (λk=>k=q) w w'
 at':∃q5 q6,aA w' q (KB s (t.settle s) (.pointer (some ⟨q1,0,.none⟩)) (.pointer (some ⟨q2,0,.none⟩)) (ptrV (t.settle s).undo q5) (ptrV (t.settle s).com q6)) 249/\
  (((t.settle s).undo=t.undo/\q5=q3)\/(t.undo=none/\w.heap.size<=q5/\∃x,(t.settle s).undo=some x/\aA w' q5 (AG s x) 274))/\
  (((t.settle s).com=t.com/\q6=q4)\/(t.com=none/\w.heap.size<=q6/\∃x,(t.settle s).com=some x/\aA w' q6 (xE s x) 276))
theorem ztq{F1:Nat->Prop}(q q1 q2 q3 q4:Nat)(s:Sh)(t:Rr)(r:Rs)(f:Fe)(pv:Value)(w:World)(bn:t.res=some r)(b8:t.free=some f)(hq:aA w q (KB s t (.pointer (some ⟨q1,0,.none⟩)) (.pointer (some ⟨q2,0,.none⟩)) (ptrV t.undo q3) (ptrV t.com q4)) 249) (hr:RsO F1 w q1 s r) (hf:aA w q2 (YA s f pv) 246)(hu:∀x,t.undo=some x->aA w q3 (AG s x) 274) (hc:∀x,t.com=some x->aA w q4 (xE s x) 276):
  Calls Tryz.prog 151 #[some q] w λe w'=>uL q q1 q2 q3 q4 s t w w' e:=by
 have h0:=At1.start hq;clear hq;have C:=XF s t r f bn b8;have o:Hid (∀Y (t':Rr),t.settle s=t'->t'.undo=t.undo->t'.com=t.com->At1 q w Y (KB s t' (.pointer (some ⟨q1,0,.none⟩)) (.pointer (some ⟨q2,0,.none⟩)) (ptrV t.undo q3) (ptrV t.com q4)) 249->uL q q1 q2 q3 q4 s t w Y (.returned (.tuple #[]))):=hd' λY t' U e2 e3 hA=>⟨rfl,hA.only,q3,q4,by rw[U,e2,e3];exact hA.row,.inl ⟨by rw[U,e2],rfl⟩,.inl ⟨by rw[U,e3],rfl⟩⟩
 have J:Hid (∀Y q6 (x:Cm),t.settle s={t with com:=some x}->t.com=none->w.heap.size<=q6->aA Y q6 (xE s x) 276->At1 q w Y (KB s t (.pointer (some ⟨q1,0,.none⟩)) (.pointer (some ⟨q2,0,.none⟩)) (ptrV t.undo q3) (.pointer (some ⟨q6,0,.none⟩))) 249->uL q q1 q2 q3 q4 s t w Y (.returned (.tuple #[]))):=hd' λY q6 x U e2 h6 hx hA=>⟨rfl,hA.only,q3,q6,by rw[U];exact hA.row,.inl ⟨by rw[U],rfl⟩,.inr ⟨e2,h6,x,by rw[U],hx⟩⟩
 have L:Hid (∀Y q5 (x:Un),t.settle s={t with undo:=some x}->t.undo=none->w.heap.size<=q5->aA Y q5 (AG s x) 274->At1 q w Y (KB s t (.pointer (some ⟨q1,0,.none⟩)) (.pointer (some ⟨q2,0,.none⟩)) (.pointer (some ⟨q5,0,.none⟩)) (ptrV t.com q4)) 249->uL q q1 q2 q3 q4 s t w Y (.returned (.tuple #[]))):=hd' λY q5 x U e2 h5 hx hA=>⟨rfl,hA.only,q5,q4,by rw[U];exact hA.row,.inr ⟨e2,h5,x,by rw[U],hx⟩,.inl ⟨by rw[U],rfl⟩⟩
 have b2:=hd' (LI hr);have bj:=λY (hY:Below w.heap.size w Y)=>YL (hr.only (Only.of_below (F:=λ_=>False) hY) (λ_ _ e=>e));have bh:=λY (hY:Below w.heap.size w Y)=>CP q2 _ f.done Y (hf.below hY) rfl;have bi:=λY (hY:Below w.heap.size w Y)=>UL q2 _ f.gave Y (hf.below hY) rfl;have b3:∀Y,jW w Y->jK 159 #[ptrV t.undo q3] Y λe w'=>e=.returned (.bool (JD t.undo))/\w'=Y:=λY hY=>by
  rcases h:t.undo with _|u
  .exact zof Y
  exact zx6 q3 _ u.done Y ((hu u h).below hY) rfl
 have b1:∀Y,jW w Y->jK 160 #[ptrV t.com q4] Y λe w'=>e=.returned (.bool (EF t.com))/\w'=Y:=λY hY=>by
  rcases h:t.com with _|u
  .exact yU Y
  exact uV q4 _ u.done Y ((hc u h).below hY) rfl
 have y:=λx Y (hY:aA Y q (KB s t (.pointer (some ⟨q1,0,.none⟩)) (.pointer (some ⟨q2,0,.none⟩)) (ptrV t.undo q3) (ptrV t.com q4)) 249)=>QW q s t _ _ _ _ x Y hY;have D:=λb W=>jX s t.c b W;have G:=λb W=>z3q s t.c b W;clear hr hf hu hc bn b8;generalize r.done=rd at*;generalize f.done=fd at*;generalize f.gave=fg at*;unfold gotV at b2;generalize cb:r.got=og at*;obtain⟨sp,sc,sm⟩:=s;obtain⟨tc,bq,bf,H,T,bp,bc⟩:=t;dsimp only at C b3 b1 y o J L D G;obtain⟨vu,S⟩:∃v,v=ptrV H q3:=⟨_,rfl⟩;obtain⟨vc,b0⟩:∃v,v=ptrV T q4:=⟨_,rfl⟩;rw[<-S]at h0 o J b3 y;rw[<-b0]at h0 o L b1 y;replace S:=hd' S;replace b0:=hd' b0;generalize JD H=ud at*;generalize EF T=cd at*;obtain⟨blk,R⟩:∃b,b=og.getD Blk.zero:=⟨_,rfl⟩;rw[<-R]at b2;obtain⟨bb,z⟩:∃b,b=og.isSome:=⟨_,rfl⟩;rw[<-z]at b2;replace z:=hd' z;replace R:=hd' R;obtain⟨i,l,m,bk,j⟩:=blk;dsimp only[aG]at b2;replace bj:=hd' bj;replace bh:=hd' bh;replace bi:=hd' bi;replace b3:=hd' b3;replace b1:=hd' b1;replace y:=hd' y;replace D:=hd' D;replace G:=hd' G;replace C:=hd' C;have c5:=h0.cell;go_in;go_upto_region 2 with(go_at_call 158;(with_reducible refine b2.out.mono ?_);rintro r w1 ⟨rfl,bg⟩);have I:=bg.trans ((Below.refl w.heap.size w1).alloc bg.size (.cells #[i,l,m,bk,j] 234));have hE:aA (w1.alloc (.cells #[i,l,m,bk,j] 234)) w1.heap.size #[i,l,m,bk,j] 234:=jA _ _;have c7:w.heap.size<=w1.heap.size:=bg.size;generalize w1.alloc (.cells #[i,l,m,bk,j] 234)=X at*;obtain⟨E,c6,bm⟩:=hidv w1.heap.size;simp only[<-bm]at hE c7|-;have c4:E≠q:=λe=>by have:=h0.lt;omega
 clear bm c6 c5 b2 bg;have M:=h0.below I;have lX:=M.lt;have lE:=hE.lt;have c8:=M.cell;replace I:=hd' I;have N:=hd' (b3 X I.out);have O:=hd' (b1 X I.out);have V:=hd' (bj X I.out);have bs:=hd' (bh X I.out);have bz:=hd' (bi X I.out);clear b3 b1 bj bh bi;rcases C.out with⟨rfl,hs⟩|⟨rfl,rfl,hs⟩|⟨rfl,rfl,rfl,hs⟩|⟨rfl,rfl,rfl,rfl,hs⟩|⟨b,rfl,rfl,rfl,rfl,hw,hs⟩|⟨b,rfl,rfl,rfl,rfl,U,e2,rfl,rfl,hs⟩|⟨b,rfl,rfl,rfl,rfl,U,e2,rfl,rfl,hs⟩;case inl=>clear C D G J L;replace hs:=hd' hs;go_wp2_with (first|(go_at_call 159;(with_reducible refine N.out.mono ?_);rintro r w2 ⟨rfl,n⟩;obtain rfl:=n.symm)|(go_at_call 150;(with_reducible refine(y _ _ M.row).mono ?_);rintro r w7 hT;obtain rfl:=hT.ret));go_returns;exact o _ _ hs rfl rfl (M.turned hT)
 case inr.inl=>clear C D G J L;replace hs:=hd' hs;go_wp2_with (first|(go_at_call 159;(with_reducible refine N.out.mono ?_);rintro r w2 ⟨rfl,n⟩;obtain rfl:=n.symm)|(go_at_call 160;(with_reducible refine O.out.mono ?_);rintro r w3 ⟨rfl,p⟩;obtain rfl:=p.symm)|(go_at_call 150;(with_reducible refine(y _ _ M.row).mono ?_);rintro r w7 hT;obtain rfl:=hT.ret));go_returns;exact o _ _ hs rfl rfl (M.turned hT)
 case inr.inr.inl=>clear C D G J L;replace hs:=hd' hs;go_wp2_with (first|(go_at_call 159;(with_reducible refine N.out.mono ?_);rintro r w2 ⟨rfl,n⟩;obtain rfl:=n.symm)|(go_at_call 160;(with_reducible refine O.out.mono ?_);rintro r w3 ⟨rfl,p⟩;obtain rfl:=p.symm)|(go_at_call 161;(with_reducible refine V.out.mono ?_);rintro r w4 ⟨rfl,B⟩;obtain rfl:=B.symm));go_returns;exact o _ _ hs rfl rfl M
 case inr.inr.inr.inl=>clear C D G J L;replace hs:=hd' hs;replace z:Hid (bb=false):=hd' z.out;obtain rfl:bb=false:=z.out;go_wp2_with (first|(go_at_call 159;(with_reducible refine N.out.mono ?_);rintro r w2 ⟨rfl,n⟩;obtain rfl:=n.symm)|(go_at_call 160;(with_reducible refine O.out.mono ?_);rintro r w3 ⟨rfl,p⟩;obtain rfl:=p.symm)|(go_at_call 161;(with_reducible refine V.out.mono ?_);rintro r w4 ⟨rfl,B⟩;obtain rfl:=B.symm)|(go_at_call 150;(with_reducible refine(y _ _ M.row).mono ?_);rintro r w7 hT;obtain rfl:=hT.ret));go_returns;exact o _ _ hs rfl rfl (M.turned hT)
 case inr.inr.inr.inr.inl=>
  clear C D G J L;replace hs:=hd' hs;obtain rfl:bb=true:=z.out;rcases hw with hw|⟨bw,n⟩|⟨bw,n,p⟩
  .obtain rfl:vu=.pointer (some ⟨q3,0,.none⟩):=by
    rcases H with _|u
    .exact absurd rfl hw
    exact S.out
   go_wp2_with (first|(go_at_call 159;(with_reducible refine N.out.mono ?_);rintro r w2 ⟨rfl,n⟩;obtain rfl:=n.symm)|(go_at_call 160;(with_reducible refine O.out.mono ?_);rintro r w3 ⟨rfl,p⟩;obtain rfl:=p.symm)|(go_at_call 161;(with_reducible refine V.out.mono ?_);rintro r w4 ⟨rfl,B⟩;obtain rfl:=B.symm));go_returns;exact o _ _ hs rfl rfl M
  .obtain rfl:vu=.pointer none:=by rw[S,bw];rfl
   obtain rfl:vc=.pointer (some ⟨q4,0,.none⟩):=by
    rcases T with _|u
    .exact absurd rfl n
    exact b0.out
   go_wp2_with (first|(go_at_call 159;(with_reducible refine N.out.mono ?_);rintro r w2 ⟨rfl,n⟩;obtain rfl:=n.symm)|(go_at_call 160;(with_reducible refine O.out.mono ?_);rintro r w3 ⟨rfl,p⟩;obtain rfl:=p.symm)|(go_at_call 161;(with_reducible refine V.out.mono ?_);rintro r w4 ⟨rfl,B⟩;obtain rfl:=B.symm));go_returns;exact o _ _ hs rfl rfl M
  obtain rfl:vu=.pointer none:=by rw[S,bw];rfl
  obtain rfl:vc=.pointer none:=by rw[b0,n];rfl
  subst p;go_wp2_with (first|(go_at_call 159;(with_reducible refine N.out.mono ?_);rintro r w2 ⟨rfl,n⟩;obtain rfl:=n.symm)|(go_at_call 160;(with_reducible refine O.out.mono ?_);rintro r w3 ⟨rfl,p⟩;obtain rfl:=p.symm)|(go_at_call 161;(with_reducible refine V.out.mono ?_);rintro r w4 ⟨rfl,B⟩;obtain rfl:=B.symm)|(go_at_call 162;(with_reducible refine bs.out.mono ?_);rintro r w5 ⟨rfl,ba⟩;obtain rfl:=ba.symm));go_returns;exact o _ _ hs rfl rfl M
 case inr.inr.inr.inr.inr.inl=>
  clear C y o;replace hs:=hd' hs;obtain rfl:bb=true:=z.out;obtain rfl:vu=.pointer none:=by rw[S,U];rfl
  obtain rfl:vc=.pointer none:=by rw[b0,e2];rfl
  have bu:b=⟨i,l,m,bk,j⟩:=R.out.symm;subst bu;have gn:=D ⟨i,l,m,bk,j⟩;dsimp only at gn;replace gn:=hd' gn;replace bv:=hd' (λY q0 x=>J Y q0 x);clear D G J L;go_upto_region 11 with(first|(go_at_call 159;(with_reducible refine N.out.mono ?_);rintro r w2 ⟨rfl,n⟩;obtain rfl:=n.symm)|(go_at_call 160;(with_reducible refine O.out.mono ?_);rintro r w3 ⟨rfl,p⟩;obtain rfl:=p.symm)|(go_at_call 161;(with_reducible refine V.out.mono ?_);rintro r w4 ⟨rfl,B⟩;obtain rfl:=B.symm)|(go_at_call 162;(with_reducible refine bs.out.mono ?_);rintro r w5 ⟨rfl,ba⟩;obtain rfl:=ba.symm)|(go_at_call 163;(with_reducible refine bz.out.mono ?_);rintro r w6 ⟨rfl,bx⟩;obtain rfl:=bx.symm));have b6:At1 q w X.drew _ _:=⟨M.row.drew,M.only.drew,M.ls⟩;have b5:=hE.drew;have hS:=hd' (λ(Y:World) (v:Value) (h:aA Y q (KB ⟨sp,sc,sm⟩ ⟨tc,bq,bf,H,T,bp,bc⟩ (.pointer (some ⟨q1,0,.none⟩)) (.pointer (some ⟨q2,0,.none⟩)) (.pointer none) v) 249) (h2:aA Y E #[i,l,m,bk,j] 234)=>(⟨h.cell 0,h.cell 1,h.cell 2,h.cell 3,h2.cell 0,h2.cell 1,h2.cell 2,h2.cell 3,h2.cell 4⟩:Y.cell? ⟨q,0,.none⟩=some (.int .i64 sp)/\Y.cell? ⟨q,1,.none⟩=some (.int .i64 sc)/\Y.cell? ⟨q,2,.none⟩=some (.int .i64 sm)/\Y.cell? ⟨q,3,.none⟩=some (.int .i64 tc)/\Y.cell? ⟨E,0,.none⟩=some (.bool i)/\Y.cell? ⟨E,1,.none⟩=some (.int .i64 l)/\Y.cell? ⟨E,2,.none⟩=some (.int .i64 m)/\Y.cell? ⟨E,3,.none⟩=some (.int .i64 bk)/\Y.cell? ⟨E,4,.none⟩=some (.int .i64 j)))
  go_region_held3 (λY=>Y.cell? ⟨q,0,.none⟩=some (.int .i64 sp)/\Y.cell? ⟨q,1,.none⟩=some (.int .i64 sc)/\Y.cell? ⟨q,2,.none⟩=some (.int .i64 sm)/\Y.cell? ⟨q,3,.none⟩=some (.int .i64 tc)/\Y.cell? ⟨E,0,.none⟩=some (.bool i)/\Y.cell? ⟨E,1,.none⟩=some (.int .i64 l)/\Y.cell? ⟨E,2,.none⟩=some (.int .i64 m)/\Y.cell? ⟨E,3,.none⟩=some (.int .i64 bk)/\Y.cell? ⟨E,4,.none⟩=some (.int .i64 j))
   (first|exact hS _ _ b6.row b5|exact hS _ _ hC.row b4|exact hS _ _ ((hC.set 7 _).row.cast rfl) (b4.other c4 _ _))
   (first|(go_at_call 164;refine(gn _).mono ?_;rintro r w6 ⟨q6,rfl,b9,Z,b7⟩;have hC:=b6.below b7;have b4:=b5.below b7;have c9:=hC.cell;have zf:=hC.free))
  go_wp2_with fail;go_returns;exact bv _ q6 _ hs e2 (Nat.le_trans I.out.size b9) (Z.other (by have h1:=M.lt;have h2:X.heap.size<=q6:=b9;omega) _ _) (hC.set 7 _)
 case inr.inr.inr.inr.inr.inr=>
  clear C y o;replace hs:=hd' hs;obtain rfl:bb=true:=z.out;obtain rfl:vu=.pointer none:=by rw[S,U];rfl
  obtain rfl:vc=.pointer none:=by rw[b0,e2];rfl
  have bu:b=⟨i,l,m,bk,j⟩:=R.out.symm;subst bu;have gn:=G ⟨i,l,m,bk,j⟩;dsimp only at gn;replace gn:=hd' gn;replace bv:=hd' (λY q0 x=>L Y q0 x);clear D G J L;go_upto_region 1 with(first|(go_at_call 159;(with_reducible refine N.out.mono ?_);rintro r w2 ⟨rfl,n⟩;obtain rfl:=n.symm)|(go_at_call 160;(with_reducible refine O.out.mono ?_);rintro r w3 ⟨rfl,p⟩;obtain rfl:=p.symm)|(go_at_call 161;(with_reducible refine V.out.mono ?_);rintro r w4 ⟨rfl,B⟩;obtain rfl:=B.symm)|(go_at_call 162;(with_reducible refine bs.out.mono ?_);rintro r w5 ⟨rfl,ba⟩;obtain rfl:=ba.symm)|(go_at_call 163;(with_reducible refine bz.out.mono ?_);rintro r w6 ⟨rfl,bx⟩;obtain rfl:=bx.symm));have b6:At1 q w X.drew _ _:=⟨M.row.drew,M.only.drew,M.ls⟩;have b5:=hE.drew;have hS:=hd' (λ(Y:World) (v:Value) (h:aA Y q (KB ⟨sp,sc,sm⟩ ⟨tc,bq,bf,H,T,bp,bc⟩ (.pointer (some ⟨q1,0,.none⟩)) (.pointer (some ⟨q2,0,.none⟩)) v (.pointer none)) 249) (h2:aA Y E #[i,l,m,bk,j] 234)=>(⟨h.cell 0,h.cell 1,h.cell 2,h.cell 3,h2.cell 0,h2.cell 1,h2.cell 2,h2.cell 3,h2.cell 4⟩:Y.cell? ⟨q,0,.none⟩=some (.int .i64 sp)/\Y.cell? ⟨q,1,.none⟩=some (.int .i64 sc)/\Y.cell? ⟨q,2,.none⟩=some (.int .i64 sm)/\Y.cell? ⟨q,3,.none⟩=some (.int .i64 tc)/\Y.cell? ⟨E,0,.none⟩=some (.bool i)/\Y.cell? ⟨E,1,.none⟩=some (.int .i64 l)/\Y.cell? ⟨E,2,.none⟩=some (.int .i64 m)/\Y.cell? ⟨E,3,.none⟩=some (.int .i64 bk)/\Y.cell? ⟨E,4,.none⟩=some (.int .i64 j)))
  go_region_held3 (λY=>Y.cell? ⟨q,0,.none⟩=some (.int .i64 sp)/\Y.cell? ⟨q,1,.none⟩=some (.int .i64 sc)/\Y.cell? ⟨q,2,.none⟩=some (.int .i64 sm)/\Y.cell? ⟨q,3,.none⟩=some (.int .i64 tc)/\Y.cell? ⟨E,0,.none⟩=some (.bool i)/\Y.cell? ⟨E,1,.none⟩=some (.int .i64 l)/\Y.cell? ⟨E,2,.none⟩=some (.int .i64 m)/\Y.cell? ⟨E,3,.none⟩=some (.int .i64 bk)/\Y.cell? ⟨E,4,.none⟩=some (.int .i64 j))
   (first|exact hS _ _ b6.row b5|exact hS _ _ hC.row b4|exact hS _ _ ((hC.set 6 _).row.cast rfl) (b4.other c4 _ _))
   (first|(go_at_call 165;refine(gn _).mono ?_;rintro r w6 ⟨q6,rfl,b9,Z,b7⟩;have hC:=b6.below b7;have b4:=b5.below b7;have ca:=hC.cell;have zf:=hC.free))
  go_wp2_with fail;go_returns;exact bv _ q6 _ hs U (Nat.le_trans I.out.size b9) (Z.other (by have h1:=M.lt;have h2:X.heap.size<=q6:=b9;omega) _ _) (hC.set 6 _)
theorem ztt{S:Nat->Prop}(q q1:Nat)(s:Sh)(t:Rr)(r:Rs)(v2 v3 v4:Value)(w:World)(O:aA w q (KB s t (.pointer (some ⟨q1,0,.none⟩)) v2 v3 v4) 249)(R:RsO S w q1 s r)(hd:t.done=true)(N:t.err=0):
  Calls Tryz.prog 252 #[some q] w λe w'=>e=.returned (gotV r.got)/\Below w.heap.size w w':=by
 have n:=λY (hY:Below w.heap.size w Y)=>LI (R.only (Only.of_below (F:=λ_=>False) hY) (λ_ _ e=>e));clear R;unfold gotV at n|-;generalize r.got.getD Blk.zero=blk at*;generalize r.got.isSome=L at*;obtain⟨b,j,l,y,i⟩:=blk;dsimp only[aG]at n|-;replace n:=hd' n;have C:=(Below.refl w.heap.size w).alloc lr (.cells #[.bool false,.int .i64 0,.int .i64 0,.int .i64 0,.int .i64 0] 234);have H:aA (w.alloc (.cells #[.bool false,.int .i64 0,.int .i64 0,.int .i64 0,.int .i64 0] 234)) w.heap.size #[.bool false,.int .i64 0,.int .i64 0,.int .i64 0,.int .i64 0] 234:=jA _ _;go_in;go_upto_region 1 with fail;generalize w.alloc (.cells #[.bool false,.int .i64 0,.int .i64 0,.int .i64 0,.int .i64 0] 234)=X at*;obtain⟨E,Z,z⟩:=hidv w.heap.size;simp only[<-z]at H|-;have m:w.heap.size<=E:=by omega
 clear z;have lE:=H.lt;have o:=O.below C;have c9:X.cell? ⟨q,9,.none⟩=some (.bool true):=by rw[<-hd];exact o.cell 9
 have c8:X.cell? ⟨q,8,.none⟩=some (.int .i64 0):=by rw[<-N];exact o.cell 8
 have T:=o.cell;clear hd N O o;go_wp2_with (first|(go_at_call 158;(with_reducible refine(n _ C).mono ?_);rintro r M ⟨rfl,G⟩;have I:=qA C G;have B:=H.below G;have V:=B.cell;have ef:=KA B));have D:aA (((((M.setCell ⟨E,0,.none⟩ (.bool b)).setCell ⟨E,1,.none⟩ (.int .i64 j)).setCell ⟨E,2,.none⟩ (.int .i64 l)).setCell ⟨E,3,.none⟩ (.int .i64 y)).setCell ⟨E,4,.none⟩ (.int .i64 i)) E #[b,j,l,y,i] 234:=(((((B.set 0 (.bool b)).set 1 (.int .i64 j)).set 2 (.int .i64 l)).set 3 (.int .i64 y)).set 4 (.int .i64 i));have J:Below w.heap.size w (((((M.setCell ⟨E,0,.none⟩ (.bool b)).setCell ⟨E,1,.none⟩ (.int .i64 j)).setCell ⟨E,2,.none⟩ (.int .i64 l)).setCell ⟨E,3,.none⟩ (.int .i64 y)).setCell ⟨E,4,.none⟩ (.int .i64 i)):=(((((I.setCell (p:=⟨E,0,.none⟩) m (.bool b)).setCell (p:=⟨E,1,.none⟩) m (.int .i64 j)).setCell (p:=⟨E,2,.none⟩) m (.int .i64 l)).setCell (p:=⟨E,3,.none⟩) m (.int .i64 y)).setCell (p:=⟨E,4,.none⟩) m (.int .i64 i));generalize ((((M.setCell ⟨E,0,.none⟩ (.bool b)).setCell ⟨E,1,.none⟩ (.int .i64 j)).setCell ⟨E,2,.none⟩ (.int .i64 l)).setCell ⟨E,3,.none⟩ (.int .i64 y)).setCell ⟨E,4,.none⟩ (.int .i64 i)=U at*;have r0:=ce (.bool b) (D.cell 0);have r1:=ci j (D.cell 1);have r2:=ci l (D.cell 2);have r3:=ci y (D.cell 3);have r4:=ci i (D.cell 4);exact bodyPost_ret (v:=.tuple #[.agg #[b,j,l,y,i],L]) (by simp[results,Tryz.results252,go_sem,r0,r1,r2,r3,r4]) rfl ⟨rfl,J⟩
theorem zyb(q:Nat)(s:Sh)(t:Rr)(H I J L:Value)(w:World)(z:aA w q (KB s t H I J L) 249)(y:t.done=false\/t.err≠0):
  Calls Tryz.prog 252 #[some q] w λe w'=>e=.returned (gotV none)/\Below w.heap.size w w':=by
 have r:t.done=false\/(t.done=true/\(t.err==0)=false):=by
  cases h:t.done
  .exact .inl rfl
  exact .inr ⟨rfl,by simpa[h] using y⟩
 have n:=(Below.refl w.heap.size w).alloc lr (.cells #[.bool false,.int .i64 0,.int .i64 0,.int .i64 0,.int .i64 0] 234);have i:aA (w.alloc (.cells #[.bool false,.int .i64 0,.int .i64 0,.int .i64 0,.int .i64 0] 234)) w.heap.size #[.bool false,.int .i64 0,.int .i64 0,.int .i64 0,.int .i64 0] 234:=jA _ _;go_in;go_upto_region 1 with fail;generalize w.alloc (.cells #[.bool false,.int .i64 0,.int .i64 0,.int .i64 0,.int .i64 0] 234)=X at*;obtain⟨E,B,j⟩:=hidv w.heap.size;simp only[<-j]at i|-;have b:w.heap.size<=E:=by omega
 clear j;have V:=i.lt;have l:=z.below n;have M:=ce (.bool false) (i.cell 0);have N:=ci 0 (i.cell 1);have O:=ci 0 (i.cell 2);have R:=ci 0 (i.cell 3);have S:=ci 0 (i.cell 4);have T:=KA i;have c9:=ce (.bool t.done) (l.cell 9);have c8:=ci t.err (l.cell 8);clear y z l;generalize t.done=Y at*;generalize t.err=Z at*;rcases r with rfl|⟨rfl,C⟩;all_goals go_wp2_with fail;have m:aA (((((X.setCell ⟨E,0,.none⟩ (.bool false)).setCell ⟨E,1,.none⟩ (.int .i64 0)).setCell ⟨E,2,.none⟩ (.int .i64 0)).setCell ⟨E,3,.none⟩ (.int .i64 0)).setCell ⟨E,4,.none⟩ (.int .i64 0)) E #[.bool false,.int .i64 0,.int .i64 0,.int .i64 0,.int .i64 0] 234:=(((((i.set 0 (.bool false)).set 1 (.int .i64 0)).set 2 (.int .i64 0)).set 3 (.int .i64 0)).set 4 (.int .i64 0));have o:Below w.heap.size w (((((X.setCell ⟨E,0,.none⟩ (.bool false)).setCell ⟨E,1,.none⟩ (.int .i64 0)).setCell ⟨E,2,.none⟩ (.int .i64 0)).setCell ⟨E,3,.none⟩ (.int .i64 0)).setCell ⟨E,4,.none⟩ (.int .i64 0)):=(((((n.setCell (p:=⟨E,0,.none⟩) b (.bool false)).setCell (p:=⟨E,1,.none⟩) b (.int .i64 0)).setCell (p:=⟨E,2,.none⟩) b (.int .i64 0)).setCell (p:=⟨E,3,.none⟩) b (.int .i64 0)).setCell (p:=⟨E,4,.none⟩) b (.int .i64 0));generalize ((((X.setCell ⟨E,0,.none⟩ (.bool false)).setCell ⟨E,1,.none⟩ (.int .i64 0)).setCell ⟨E,2,.none⟩ (.int .i64 0)).setCell ⟨E,3,.none⟩ (.int .i64 0)).setCell ⟨E,4,.none⟩ (.int .i64 0)=U at*;have r0:=ce (.bool false) (m.cell 0);have r1:=ci 0 (m.cell 1);have D:=ci 0 (m.cell 2);have F:=ci 0 (m.cell 3);have G:=ci 0 (m.cell 4);exact bodyPost_ret (v:=.tuple #[.agg #[.bool false,.int .i64 0,.int .i64 0,.int .i64 0,.int .i64 0],.bool false]) (by simp[results,Tryz.results252,go_sem,r0,r1,D,F,G]) rfl ⟨rfl,o⟩
end

section

attribute [local go_sem] KB

def RrO (F:Nat->Prop) (w:World) (q:Nat) (s:Sh) (t:Rr):Prop:=
 (∀k,F k->k<w.heap.size)/\F q/\∃q1 q2 q3 q4 F1 F2,(∀k,F1 k->F k/\k≠q)/\(∀k,F2 k->F k/\k≠q/\¬F1 k)/\
  aA w q (KB s t (ptrV t.res q1) (ptrV t.free q2) (ptrV t.undo q3) (ptrV t.com q4)) 249/\
  (∀x,t.res=some x->RsO F1 w q1 s x)/\(∀x,t.free=some x->FeO F2 w q2 s x)/\
  (∀x,t.undo=some x->(F q3/\q3≠q/\¬F1 q3/\¬F2 q3)/\aA w q3 (AG s x) 274)/\
  (∀x,t.com=some x->(F q4/\q4≠q/\¬F1 q4/\¬F2 q4)/\aA w q4 (xE s x) 276)
theorem ME{F:Nat->Prop}{w w':World}(h:∀k,F k->k<w.heap.size)(hs:w.heap.size<=w'.heap.size):∀k,grow F w w' k->k<w'.heap.size:=λk e=>e.elim (λe=>Nat.lt_of_lt_of_le (h k e) hs) (λe=>e.2)
theorem RrO.settled{F:Nat->Prop}{w:World}{q:Nat}{s:Sh}{t:Rr}(h:RrO F w q s t){r:Rs}{f:Fe}(l:t.res=some r)(i:t.free=some f):
  Calls Tryz.prog 151 #[some q] w λe w'=>e=.returned (.tuple #[])/\Only (λk=>k=q) w w'/\RrO (grow F w w') w' q s (t.settle s):=by
 obtain⟨z,h1,q1,q2,q3,q4,T,U,m,n,p,S,R,hu,hc⟩:=h;have N:=R f i;obtain⟨f1,Z,f2,f3⟩:=N;have B:aA w q (KB s t (.pointer (some ⟨q1,0,.none⟩)) (.pointer (some ⟨q2,0,.none⟩)) (ptrV t.undo q3) (ptrV t.com q4)) 249:=by rw[l,i]at p;exact p
 refine(ztq q q1 q2 q3 q4 s t r f (ptrV f.put Z) w l i B (S r l) f2.row (λx j=>(hu x j).2) (λx j=>(hc x j).2)).mono λe w' hS=>?_;obtain⟨X,Y,V,E,G⟩:=hS.at';have O:=hS.only.size;have er:(t.settle s).res=t.res/\(t.settle s).free=t.free:=by rcases XF s t r f l i with⟨_,e⟩|⟨_,_,e⟩|⟨_,_,_,e⟩|⟨_,_,_,_,e⟩|⟨b,_,_,_,_,_,e⟩|⟨b,_,_,_,_,_,_,_,_,e⟩|⟨b,_,_,_,_,_,_,_,_,e⟩<;>rw[e]<;>exact⟨rfl,rfl⟩
 refine⟨hS.ret,hS.only,ME z O,.inl h1,q1,q2,X,Y,T,U,λk o=>⟨.inl (m k o).1,(m k o).2⟩,λk o=>⟨.inl (n k o).1,(n k o).2⟩,?_,?_,?_,?_,?_⟩
 .rw[er.1,er.2,l,i];exact V
 .intro x j;rw[er.1]at j;exact(S x j).only hS.only (λk o=>(m k o).2)
 .intro x j;rw[er.2]at j;exact(R x j).only hS.only (λk o=>(n k o).2.1)
 .intro x j;rcases E with⟨E,rfl⟩|⟨E,L,y,M,D⟩
  .rw[E]at j;obtain⟨⟨a1,C,H,I⟩,J⟩:=hu x j;exact⟨⟨.inl a1,C,H,I⟩,J.only hS.only C⟩
  rw[M]at j;injection j with j;subst j;exact⟨⟨.inr ⟨L,D.lt⟩,λe=>by have:=z q h1;omega,λe=>by have:=z _ (m _ e).1;omega,λe=>by have:=z _ (n _ e).1;omega⟩,D⟩
 intro x j;rcases G with⟨G,rfl⟩|⟨G,L,y,M,D⟩
 .rw[G]at j;obtain⟨⟨a1,C,H,I⟩,J⟩:=hc x j;exact⟨⟨.inl a1,C,H,I⟩,J.only hS.only C⟩
 rw[M]at j;injection j with j;subst j;exact⟨⟨.inr ⟨L,D.lt⟩,λe=>by have:=z q h1;omega,λe=>by have:=z _ (m _ e).1;omega,λe=>by have:=z _ (n _ e).1;omega⟩,D⟩
structure rrOk (s:Sh) (t:Rr):Prop where
 cl:t.done=false->∃r f,t.res=some r/\t.free=some f/\((∀x,r.seeker=some x->skOk s x)/\(∀x,r.runner=some x->rnOk s x))/\feOk s f/\(∀u,t.undo=some u->unOk s u)/\(∀u,t.com=some u->cmOk s u)/\(t.undo=none\/t.com=none)/\(r.done=true->f.done=true->t.undo≠none\/t.com≠none)
theorem RrO.BQ{F:Nat->Prop}{q p b:Nat}{s:Sh}{t:Rr}{m:Mem}{w:World}(h:RrO F w q s t){r:Rs}(o:t.res=some r)(Y:oA w p b m)(N:¬F p)(hb:¬F b)(T:Fits s m)(U:(∀x,r.seeker=some x->skOk s x)/\(∀x,r.runner=some x->rnOk s x))(hs:m.st<1000000000):
  ∃q1,w.cell? ⟨q,4,.none⟩=some (.pointer (some ⟨q1,0,.none⟩))/\Calls Tryz.prog 214 #[.pointer (some ⟨q1,0,.none⟩),some p] w λe w'=>cC F p b w w' e (CB s r m).2/\RrO (grow F w w') w' q s {t with res:=some (CB s r m).1}:=by
 obtain⟨L,h1,q1,q2,q3,q4,E,R,j,l,B,X,M,hu,hc⟩:=h;have c4:=ce (ptrV t.res q1) (B.cell 4);rw[o]at c4;refine⟨q1,c4,(pV (X r o) Y (λe=>N (j p e).1) (λe=>hb (j b e).1) T U hs).mono λe w' hS=>?_⟩;obtain⟨z,S⟩:=hS;have O:=z.only.size;have V:¬(E q\/q=p\/q=b):=by
  rintro(e|e|e)
  .exact(j q e).2 rfl
  .exact N (e▸h1)
  exact hb (e▸h1)
 have n:∀k,F k->¬E k->¬(E k\/k=p\/k=b):=λk i C e=>by
  rcases e with e|e|e
  .exact C e
  .exact N (e▸i)
  exact hb (e▸i)
 have D:∀k,F k->¬E k->¬grow E w w' k:=λk i C e=>by
  rcases e with e|e
  .exact C e
  have:=L k i;omega
 refine⟨⟨z.ret,z.wds,z.only.weak λk i=>i.imp (λe=>(j k e).1) id⟩,ME L O,.inl h1,q1,q2,q3,q4,grow E w w',R,λk i=>?_,λk i=>⟨.inl (l k i).1,(l k i).2.1,D k (l k i).1 (l k i).2.2⟩,?_,?_,?_,?_,?_⟩
 .rcases i with i|i
  .exact⟨.inl (j k i).1,(j k i).2⟩
  exact⟨.inr i,λe=>by have:=L q h1;omega⟩
 .have:=B.only z.only V;rw[o]at this;exact this
 .intro x y;injection y with y;subst y;exact S
 .intro x y;exact(M x y).only z.only (λk i=>n k (l k i).1 (l k i).2.2)
 .intro x y;obtain⟨⟨a1,H,G,I⟩,J⟩:=hu x y;exact⟨⟨.inl a1,H,D _ a1 G,I⟩,J.only z.only (n _ a1 G)⟩
 intro x y;obtain⟨⟨a1,H,G,I⟩,J⟩:=hc x y;exact⟨⟨.inl a1,H,D _ a1 G,I⟩,J.only z.only (n _ a1 G)⟩
theorem RrO.weak{F G:Nat->Prop}{w:World}{q:Nat}{s:Sh}{t:Rr}(h:RrO F w q s t)(j:∀k,F k->G k)(hb:∀k,G k->k<w.heap.size):RrO G w q s t:=by
 obtain⟨y,h1,q1,q2,q3,q4,o,p,f,i,m,r,n,hu,hc⟩:=h;exact⟨hb,j q h1,q1,q2,q3,q4,o,p,λk l=>⟨j k (f k l).1,(f k l).2⟩,λk l=>⟨j k (i k l).1,(i k l).2⟩,m,r,n,λx b=>⟨⟨j _ (hu x b).1.1,(hu x b).1.2⟩,(hu x b).2⟩,λx b=>⟨⟨j _ (hc x b).1.1,(hc x b).1.2⟩,(hc x b).2⟩⟩
theorem RrO.z5a{F:Nat->Prop}{q p b:Nat}{s:Sh}{t:Rr}{m:Mem}{w:World}(h:RrO F w q s t){f:Fe}(l:t.free=some f)(X:oA w p b m)(M:¬F p)(hb:¬F b)(S:Fits s m)(T:feOk s f)(hs:m.st<1000000000):
  ∃q2,w.cell? ⟨q,5,.none⟩=some (.pointer (some ⟨q2,0,.none⟩))/\Calls Tryz.prog 232 #[.pointer (some ⟨q2,0,.none⟩),some p] w λe w'=>cC F p b w w' e (NB s f m).2/\RrO (grow F w w') w' q s {t with free:=some (NB s f m).1}:=by
 obtain⟨G,h1,q1,q2,q3,q4,O,C,o,j,z,V,L,hu,hc⟩:=h;have c5:=ce (ptrV t.free q2) (z.cell 5);rw[l]at c5;refine⟨q2,c5,(sX (L f l) X (λe=>M (j p e).1) (λe=>hb (j b e).1) S T hs).mono λe w' hS=>?_⟩;obtain⟨y,R⟩:=hS;have N:=y.only.size;have U:¬(C q\/q=p\/q=b):=by
  rintro(e|e|e)
  .exact(j q e).2.1 rfl
  .exact M (e▸h1)
  exact hb (e▸h1)
 have n:∀k,F k->¬C k->¬(C k\/k=p\/k=b):=λk i B e=>by
  rcases e with e|e|e
  .exact B e
  .exact M (e▸i)
  exact hb (e▸i)
 have E:∀k,F k->¬C k->¬grow C w w' k:=λk i B e=>by
  rcases e with e|e
  .exact B e
  have:=G k i;omega
 refine⟨⟨y.ret,y.wds,y.only.weak λk i=>i.imp (λe=>(j k e).1) id⟩,ME G N,.inl h1,q1,q2,q3,q4,O,grow C w w',λk i=>⟨.inl (o k i).1,(o k i).2⟩,λk i=>?_,?_,?_,?_,?_,?_⟩
 .rcases i with i|i
  .exact⟨.inl (j k i).1,(j k i).2⟩
  exact⟨.inr i,λe=>by have:=G q h1;omega,λe=>by have:=G k (o k e).1;omega⟩
 .have:=z.only y.only U;rw[l]at this;exact this
 .intro x r;exact(V x r).only y.only (λk i=>n k (o k i).1 (λe=>(j k e).2.2 i))
 .intro x r;injection r with r;subst r;exact R
 .intro x r;obtain⟨⟨a1,H,I,D⟩,J⟩:=hu x r;exact⟨⟨.inl a1,H,I,E _ a1 D⟩,J.only y.only (n _ a1 D)⟩
 intro x r;obtain⟨⟨a1,H,I,D⟩,J⟩:=hc x r;exact⟨⟨.inl a1,H,I,E _ a1 D⟩,J.only y.only (n _ a1 D)⟩
theorem RrO.z5y{F:Nat->Prop}{q p b:Nat}{s:Sh}{t:Rr}{m:Mem}{w:World}(h:RrO F w q s t){u:Un}(y:t.undo=some u)(D:t.com=none)(V:oA w p b m)(E:¬F p)(hb:¬F b)(R:Fits s m)(S:unOk s u)(hs:m.st<1000000000):
  ∃q3,w.cell? ⟨q,6,.none⟩=some (.pointer (some ⟨q3,0,.none⟩))/\Calls Tryz.prog 246 #[.pointer (some ⟨q3,0,.none⟩),some p] w λe w'=>cC F p b w w' e (QB s u m).2/\RrO (grow F w w') w' q s {t with undo:=some (QB s u m).1}:=by
 obtain⟨O,h1,q1,q2,q3,q4,L,M,o,r,n,U,B,hu,hc⟩:=h;have c5:=ce (ptrV t.undo q3) (n.cell 6);rw[y]at c5;obtain⟨⟨z,H,I,J⟩,N⟩:=hu u y;refine⟨q3,c5,(zyo q3 p b s u m w N V (λe=>E (e▸z)) (λe=>hb (e▸z)) R S hs).mono λe w' hS=>?_⟩;have G:=hS.only.size;have T:¬(q=q3\/q=p\/q=b):=by
  rintro(e|e|e)
  .exact H e.symm
  .exact E (e▸h1)
  exact hb (e▸h1)
 have l:∀k,F k->k≠q3->¬(k=q3\/k=p\/k=b):=λk i C e=>by
  rcases e with e|e|e
  .exact C e
  .exact E (e▸i)
  exact hb (e▸i)
 refine⟨⟨hS.ret,hS.wds,hS.only.weak λk i=>i.imp (λe=>by rw[e];exact z) id⟩,ME O G,.inl h1,q1,q2,q3,q4,L,M,λk i=>⟨.inl (o k i).1,(o k i).2⟩,λk i=>⟨.inl (r k i).1,(r k i).2⟩,?_,?_,?_,?_,?_⟩
 .have:=n.only hS.only T;rw[y]at this;exact this
 .intro x j;exact(U x j).only hS.only (λk i=>l k (o k i).1 (λe=>I (e▸i)))
 .intro x j;exact(B x j).only hS.only (λk i=>l k (r k i).1 (λe=>J (e▸i)))
 .intro x j;injection j with j;subst j;exact⟨⟨.inl z,H,I,J⟩,hS.row⟩
 intro x j;exact absurd j (by rw[D];exact λe=>by cases e)
theorem RrO.z9y{F:Nat->Prop}{q p b:Nat}{s:Sh}{t:Rr}{m:Mem}{w:World}(h:RrO F w q s t){u:Cm}(y:t.com=some u)(D:t.undo=none)(V:oA w p b m)(E:¬F p)(hb:¬F b)(R:Fits s m)(S:cmOk s u)(hs:m.st<1000000000):
  ∃q3,w.cell? ⟨q,7,.none⟩=some (.pointer (some ⟨q3,0,.none⟩))/\Calls Tryz.prog 215 #[.pointer (some ⟨q3,0,.none⟩),some p] w λe w'=>cC F p b w w' e (GB s u m).2/\RrO (grow F w w') w' q s {t with com:=some (GB s u m).1}:=by
 obtain⟨O,h1,q1,q2,q3,q4,L,M,o,r,n,U,B,hu,hc⟩:=h;have c5:=ce (ptrV t.com q4) (n.cell 7);rw[y]at c5;obtain⟨⟨z,H,I,J⟩,N⟩:=hc u y;refine⟨q4,c5,(IV q4 p b s u m w N V (λe=>E (e▸z)) (λe=>hb (e▸z)) R S hs).mono λe w' hS=>?_⟩;have G:=hS.only.size;have T:¬(q=q4\/q=p\/q=b):=by
  rintro(e|e|e)
  .exact H e.symm
  .exact E (e▸h1)
  exact hb (e▸h1)
 have l:∀k,F k->k≠q4->¬(k=q4\/k=p\/k=b):=λk i C e=>by
  rcases e with e|e|e
  .exact C e
  .exact E (e▸i)
  exact hb (e▸i)
 refine⟨⟨hS.ret,hS.wds,hS.only.weak λk i=>i.imp (λe=>by rw[e];exact z) id⟩,ME O G,.inl h1,q1,q2,q3,q4,L,M,λk i=>⟨.inl (o k i).1,(o k i).2⟩,λk i=>⟨.inl (r k i).1,(r k i).2⟩,?_,?_,?_,?_,?_⟩
 .have:=n.only hS.only T;rw[y]at this;exact this
 .intro x j;exact(U x j).only hS.only (λk i=>l k (o k i).1 (λe=>I (e▸i)))
 .intro x j;exact(B x j).only hS.only (λk i=>l k (r k i).1 (λe=>J (e▸i)))
 .intro x j;exact absurd j (by rw[D];exact λe=>by cases e)
 intro x j;injection j with j;subst j;exact⟨⟨.inl z,H,I,J⟩,hS.row⟩
theorem SM{F:Nat->Prop}{q p b:Nat}{s:Sh}{r:Rr}{m:Mem}{w j i:World}{t:Ending}(y:∀k,F k->k<w.heap.size)(o:F q)(B:¬F p)(hb:¬F b)(l:cC F p b w j t m)(n:Only (λk=>k=q) j i)(z:RrO (grow (grow F w j) j i) i q s r):
  cC F p b w i (.returned (.tuple #[])) m/\RrO (grow F w i) i q s r:=by
 have h1:=l.only.size;have h2:=n.size;refine⟨⟨rfl,l.wds.only n (λe=>B (e▸o)) (λe=>hb (e▸o)),l.only.trans n (λk _ e=>.inl (by rw[e];exact o))⟩,z.weak (λk f=>?_) (ME y (Nat.le_trans h1 h2))⟩;rcases f with(f|f)|f
 .exact .inl f
 .exact .inr ⟨f.1,Nat.lt_of_lt_of_le f.2 h2⟩
 exact .inr ⟨Nat.le_trans h1 f.1,f.2⟩
theorem RrO.CQ{F:Nat->Prop}{q q1:Nat}{s:Sh}{t:Rr}{w:World}(h:RrO F w q s t){r:Rs}(b:t.res=some r)(c:w.cell? ⟨q,4,.none⟩=some (.pointer (some ⟨q1,0,.none⟩))):
  Calls Tryz.prog 161 #[some q1] w λe w'=>e=.returned (.bool r.done)/\w'=w:=by
 obtain⟨p,h1,q2,_,_,_,n,o,j,l,i,m,_⟩:=h;have c4:=ce (ptrV t.res q2) (i.cell 4);rw[b]at c4;have e:q1=q2:=by have:=c.symm.trans c4;simpa[ptrV] using this
 subst e;exact YL (m r b)
theorem RrO.bY{F:Nat->Prop}{q q1:Nat}{s:Sh}{t:Rr}{w:World}(h:RrO F w q s t){f:Fe}(b:t.free=some f)(c:w.cell? ⟨q,5,.none⟩=some (.pointer (some ⟨q1,0,.none⟩))):
  Calls Tryz.prog 162 #[some q1] w λe w'=>e=.returned (.bool f.done)/\w'=w:=by
 obtain⟨p,h1,_,q2,_,_,n,o,j,l,i,_,m,_⟩:=h;have c4:=ce (ptrV t.free q2) (i.cell 5);rw[b]at c4;have e:q1=q2:=by have:=c.symm.trans c4;simpa[ptrV] using this
 subst e;obtain⟨_,q3,h3,_⟩:=m f b;exact CP q1 _ f.done w h3.row rfl
theorem RrO.cells{F:Nat->Prop}{q:Nat}{s:Sh}{t:Rr}{w:World}(h:RrO F w q s t):∃q1 q2 q3 q4,w.cell? ⟨q,4,.none⟩=some (ptrV t.res q1)/\w.cell? ⟨q,5,.none⟩=some (ptrV t.free q2)/\w.cell? ⟨q,6,.none⟩=some (ptrV t.undo q3)/\w.cell? ⟨q,7,.none⟩=some (ptrV t.com q4)/\w.cell? ⟨q,9,.none⟩=some (.bool t.done):=by
 obtain⟨m,h1,q1,q2,q3,q4,j,l,f,i,b,_⟩:=h;exact⟨q1,q2,q3,q4,b.cell 4,b.cell 5,b.cell 6,b.cell 7,b.cell 9⟩
theorem zza{F:Nat->Prop}{q p b:Nat}{s:Sh}{t:Rr}{m:Mem}{w:World}(h:RrO F w q s t)(hw:oA w p b m)(hp:¬F p)(hb:¬F b)(X:Fits s m)(ho:rrOk s t)(hs:m.st<1000000000):
  Calls Tryz.prog 245 #[some q,some p] w λe w'=>cC F p b w w' e (LB s t m).2/\RrO (grow F w w') w' q s (LB s t m).1:=by
 obtain⟨y1,y2,q5,q6,z4,z5,c6,c7,c9⟩:=h.cells;clear z4 z5 y1 y2;rcases jB t.done with hd|hd
 .have N:LB s t m=(t,m):=by unfold LB;rw[jP hd]
  rw[N];rw[hd]at c9;have y:=hd' (h.weak (G:=grow F w w) (λk hk=>.inl hk) (ME h.1 lr));clear h N hd ho X c6 c7;go_in;go_wp2_with fail;go_returns;exact⟨⟨rfl,hw,Only.refl _ _⟩,y.out⟩
 obtain⟨r,f,j,i,T,R,U,O,S,D⟩:=ho.cl hd;rw[hd]at c9;have hF:=h.1;have hq:=h.2.1;rcases jB r.done with z|z;case inr=>
  have N:LB s t m=(Rr.settle s {t with res:=some (CB s r m).1},(CB s r m).2):=by unfold LB;simp[hd,j,i,z]
  rw[N];obtain⟨q1,c4,o⟩:=h.BQ j hw hp hb X T hs;have n:=h.CQ j c4;rw[z]at n;have C:=hd' (λ(Y:World) (G:Nat->Prop) (B:RrO G Y q s {t with res:=some (CB s r m).1})=>B.settled rfl i);have y:=hd' (λ(Y Z:World) (e:Ending) (H:cC F p b w Y e (CB s r m).2) (hZ:Only (λk=>k=q) Y Z) (B:RrO (grow (grow F w Y) Y Z) Z q s (Rr.settle s {t with res:=some (CB s r m).1}))=>SM hF hq hp hb H hZ B);replace o:=hd' o;replace n:=hd' n;clear h N hd ho X c6 c7 j i T R U O S D z hw hF hq;go_in;go_wp2_with (first|(go_at_call 161;(with_reducible refine n.out.mono ?_);rintro r w2 ⟨rfl,M⟩;obtain rfl:=M.symm)|(go_at_call 214;(with_reducible refine o.out.mono ?_);rintro r w3 ⟨H,B⟩;obtain rfl:=H.ret)|(go_at_call 151;(with_reducible refine(C _ _ B).mono ?_);rintro r w4 ⟨rfl,L,J⟩));go_returns;exact y _ _ _ H L J
 rcases jB f.done with E|E;case inr=>
  have N:LB s t m=(Rr.settle s {t with free:=some (NB s f m).1},(NB s f m).2):=by unfold LB;simp[hd,j,i,z,E]
  rw[N];obtain⟨q2,c5,o⟩:=h.z5a i hw hp hb X R hs;have l:=h.bY i c5;rw[E]at l;obtain⟨q1,y2,y3,y4,c4,z5⟩:=h.cells;clear z5 y2 y3 y4;rw[j]at c4;replace c4:w.cell? ⟨q,4,.none⟩=some (.pointer (some ⟨q1,0,.none⟩)):=c4;have n:=h.CQ j c4;rw[z]at n;have C:=hd' (λ(Y:World) (G:Nat->Prop) (B:RrO G Y q s {t with free:=some (NB s f m).1})=>B.settled j rfl);have y:=hd' (λ(Y Z:World) (e:Ending) (H:cC F p b w Y e (NB s f m).2) (hZ:Only (λk=>k=q) Y Z) (B:RrO (grow (grow F w Y) Y Z) Z q s (Rr.settle s {t with free:=some (NB s f m).1}))=>SM hF hq hp hb H hZ B);replace o:=hd' o;replace n:=hd' n;replace l:=hd' l;clear h N hd ho X c6 c7 j i T R U O S D z hw hF hq E;go_in;go_wp2_with (first|(go_at_call 161;(with_reducible refine n.out.mono ?_);rintro r w2 ⟨rfl,M⟩;obtain rfl:=M.symm)|(go_at_call 162;(with_reducible refine l.out.mono ?_);rintro r w5 ⟨rfl,V⟩;obtain rfl:=V.symm)|(go_at_call 232;(with_reducible refine o.out.mono ?_);rintro r w3 ⟨H,B⟩;obtain rfl:=H.ret)|(go_at_call 151;(with_reducible refine(C _ _ B).mono ?_);rintro r w4 ⟨rfl,L,J⟩));go_returns;exact y _ _ _ H L J
 obtain⟨q1,q2,y3,y4,c4,c5,z6⟩:=h.cells;clear z6 y3 y4;rw[j]at c4;rw[i]at c5;replace c4:w.cell? ⟨q,4,.none⟩=some (.pointer (some ⟨q1,0,.none⟩)):=c4;replace c5:w.cell? ⟨q,5,.none⟩=some (.pointer (some ⟨q2,0,.none⟩)):=c5;have n:=h.CQ j c4;have l:=h.bY i c5;rw[z]at n;rw[E]at l;replace n:=hd' n;replace l:=hd' l;rcases hun:t.undo with _|u
 .obtain⟨u,I⟩:∃u,t.com=some u:=by
   rcases D z E with e|e
   .exact absurd hun e
   rcases hc:t.com with _|u
   .exact absurd hc e
   exact⟨u,rfl⟩
  have N:LB s t m=(Rr.settle s {t with com:=some (GB s u m).1},(GB s u m).2):=by unfold LB;simp[hd,j,i,z,E,hun,I]
  rw[N];obtain⟨q3,cx,o⟩:=h.z9y I hun hw hp hb X (O u I) hs;have C:=hd' (λ(Y:World) (G:Nat->Prop) (B:RrO G Y q s {t with com:=some (GB s u m).1})=>B.settled j i);have y:=hd' (λ(Y Z:World) (e:Ending) (H:cC F p b w Y e (GB s u m).2) (hZ:Only (λk=>k=q) Y Z) (B:RrO (grow (grow F w Y) Y Z) Z q s (Rr.settle s {t with com:=some (GB s u m).1}))=>SM hF hq hp hb H hZ B);replace o:=hd' o;rw[hun]at c6;replace c6:w.cell? ⟨q,6,.none⟩=some (.pointer none):=c6;clear h N hd ho X c7 j i T R U O S D z hw hF hq E hun I;go_in;go_wp2_with (first|(go_at_call 161;(with_reducible refine n.out.mono ?_);rintro r w2 ⟨rfl,M⟩;obtain rfl:=M.symm)|(go_at_call 162;(with_reducible refine l.out.mono ?_);rintro r w5 ⟨rfl,V⟩;obtain rfl:=V.symm)|(go_at_call 215;(with_reducible refine o.out.mono ?_);rintro r w3 ⟨H,B⟩;obtain rfl:=H.ret)|(go_at_call 151;(with_reducible refine(C _ _ B).mono ?_);rintro r w4 ⟨rfl,L,J⟩));go_returns;exact y _ _ _ H L J
 have I:t.com=none:=by
  rcases S with e|e
  .rw[hun]at e;cases e
  exact e
 have N:LB s t m=(Rr.settle s {t with undo:=some (QB s u m).1},(QB s u m).2):=by unfold LB;simp[hd,j,i,z,E,hun,I]
 rw[N];obtain⟨q3,cx,o⟩:=h.z5y hun I hw hp hb X (U u hun) hs;have C:=hd' (λ(Y:World) (G:Nat->Prop) (B:RrO G Y q s {t with undo:=some (QB s u m).1})=>B.settled j i);have y:=hd' (λ(Y Z:World) (e:Ending) (H:cC F p b w Y e (QB s u m).2) (hZ:Only (λk=>k=q) Y Z) (B:RrO (grow (grow F w Y) Y Z) Z q s (Rr.settle s {t with undo:=some (QB s u m).1}))=>SM hF hq hp hb H hZ B);replace o:=hd' o;rw[hun]at c6;clear c6;clear h N hd ho X c7 j i T R U O S D z hw hF hq E hun I;go_in;go_wp2_with (first|(go_at_call 161;(with_reducible refine n.out.mono ?_);rintro r w2 ⟨rfl,M⟩;obtain rfl:=M.symm)|(go_at_call 162;(with_reducible refine l.out.mono ?_);rintro r w5 ⟨rfl,V⟩;obtain rfl:=V.symm)|(go_at_call 246;(with_reducible refine o.out.mono ?_);rintro r w3 ⟨H,B⟩;obtain rfl:=H.ret)|(go_at_call 151;(with_reducible refine(C _ _ B).mono ?_);rintro r w4 ⟨rfl,L,J⟩));go_returns;exact y _ _ _ H L J
theorem z6z(s:Sh)(c n f:Int):(∀x,(mB s c n f).seeker=some x->skOk s x)/\(∀x,(mB s c n f).runner=some x->rnOk s x):=by
 unfold mB;split
 .exact⟨λx b=>(by injection b with b;subst b;exact DX _ _ _ _),λx b=>(by cases b)⟩
 split
 .exact⟨λx b=>(by cases b),λx b=>(by injection b with b;subst b;exact QX _ _ _)⟩
 exact⟨λx b=>(by cases b),λx b=>(by cases b)⟩
theorem ZU{s:Sh}{t:Rr}{r:Rs}{f:Fe}(j:t.res=some r)(i:t.free=some f)(m:(∀x,r.seeker=some x->skOk s x)/\(∀x,r.runner=some x->rnOk s x))(l:feOk s f)(o:∀u,t.undo=some u->unOk s u)(n:∀u,t.com=some u->cmOk s u)(p:t.undo=none\/t.com=none):rrOk s (t.settle s):=by
 rcases XF s t r f j i with⟨_,e⟩|⟨_,_,e⟩|⟨_,_,h3,e⟩|⟨_,_,_,_,e⟩|⟨b,_,_,_,_,B,e⟩|⟨b,_,_,_,_,q,y,_,_,e⟩|⟨b,_,_,_,_,q,y,_,_,e⟩;all_goals rw[e]
 .exact⟨λh=>by cases h⟩
 .exact⟨λh=>by cases h⟩
 .exact⟨λ_=>⟨r,f,j,i,m,l,o,n,p,λh=>by rw[h3]at h;cases h⟩⟩
 .exact⟨λh=>by cases h⟩
 .refine⟨λ_=>⟨r,f,j,i,m,l,o,n,p,λ_ z=>?_⟩⟩;rcases B with h|⟨_,h⟩|⟨_,_,h⟩
  .exact .inl h
  .exact .inr h
  rw[h]at z;cases z
 .exact⟨λ_=>⟨r,f,j,i,m,l,o,λu hu=>by injection hu with hu;subst hu;exact jQ _ _ _,.inl q,λ_ _=>.inr (λh=>by cases h)⟩⟩
 exact⟨λ_=>⟨r,f,j,i,m,l,λu hu=>by injection hu with hu;subst hu;exact z8l _ _ _,n,.inr y,λ_ _=>.inl (λh=>by cases h)⟩⟩
theorem z4q(s:Sh)(c a n first:Int):rrOk s (pD s c a n first):=by
 unfold pD;split
 .exact ZU rfl rfl (z6z _ _ _ _) (BX _ _ _) (λu hu=>by cases hu) (λu hu=>by cases hu) (.inl rfl)
 exact⟨λh=>by cases h⟩
def EH (w w':World) (e:Ending) (s:Sh) (t:Rr):Prop:=∃q,e=.returned (.pointer (some ⟨q,0,.none⟩))/\RrO (λk=>w.heap.size<=k/\k<w'.heap.size) w' q s t/\Below w.heap.size w w'
theorem EH.bare{w w':World}{q:Nat}{s:Sh}{t:Rr}(h1:w.heap.size<=q)(hb:Below w.heap.size w w')(n:aA w' q (KB s t (.pointer none) (.pointer none) (.pointer none) (.pointer none)) 249)(i:t.res=none) (j:t.free=none) (l:t.undo=none) (m:t.com=none):EH w w' (.returned (.pointer (some ⟨q,0,.none⟩))) s t:=by
 refine⟨q,rfl,⟨λk f=>f.2,⟨h1,n.lt⟩,0,0,0,0,λ_=>False,λ_=>False,λk f=>f.elim,λk f=>f.elim,?_,?_,?_,?_,?_⟩,hb⟩
 .rw[i,j,l,m];exact n
 .intro x b;rw[i]at b;cases b
 .intro x b;rw[j]at b;cases b
 .intro x b;rw[l]at b;cases b
 intro x b;rw[m]at b;cases b
theorem RrO.join{w Y:World}{q q1 q2:Nat}{s:Sh}{c:Int}{r:Rs}{f:Fe}{n o:Nat->Prop}(h1:w.heap.size<=q)(hb:Below w.heap.size w Y)(l:aA Y q (KB s ⟨c,none,none,none,none,0,false⟩ (.pointer (some ⟨q1,0,.none⟩)) (.pointer (some ⟨q2,0,.none⟩)) (.pointer none) (.pointer none)) 249)(y:RsO n Y q1 s r) (p:FeO o Y q2 s f) (m:∀k,n k->q<k/\k<Y.heap.size) (j:∀k,o k->(q<k/\k<Y.heap.size)/\¬n k):
  RrO (λk=>w.heap.size<=k/\k<Y.heap.size) Y q s ⟨c,some r,some f,none,none,0,false⟩:=
 ⟨λk i=>i.2,⟨h1,l.lt⟩,q1,q2,0,0,n,o,λk i=>⟨⟨by have:=(m k i).1;omega,(m k i).2⟩,by have:=(m k i).1;omega⟩,λk i=>⟨⟨by have:=(j k i).1.1;omega,(j k i).1.2⟩,by have:=(j k i).1.1;omega,(j k i).2⟩,l,λx b=>(by injection b with b;subst b;exact y),λx b=>(by injection b with b;subst b;exact p),λx b=>(by cases b),λx b=>(by cases b)⟩
theorem PX{Y:World}{q:Nat}{s:Sh}{c a:Int}(h:aA Y q (YA s (uB s c a) (.pointer none)) 246):FeO (λk=>k=q) Y q s (uB s c a):=
 ⟨rfl,0,⟨h,λx b=>(by cases b)⟩,λh=>absurd rfl h⟩
theorem size_set(w:World)(a:Addr)(v:Value):(w.setCell a v).heap.size=w.heap.size:=by simp[World.setCell]
theorem RsO.setK{F:Nat->Prop}{w:World}{q K:Nat}{s:Sh}{t:Rs}(h:RsO F w q s t)(b:¬F K)(i:Nat)(v:Value):RsO F (w.setCell ⟨K,i,.none⟩ v) q s t:=
 h.only (Only.setCell (F:=λk=>k=K) (Only.refl _ _) (.inl rfl) _) (λk f e=>b (e▸f))
theorem RsO.bel{F:Nat->Prop}{w w':World}{q:Nat}{s:Sh}{t:Rs}(h:RsO F w q s t)(hb:Below w.heap.size w w'):RsO F w' q s t:=h.only (Only.of_below (F:=λ_=>False) hb) (λ_ _ e=>e)
theorem z3p(s:Sh)(c a n f:Int)(w:World):
  Calls Tryz.prog 130 #[.agg #[s.p,s.c,s.m],c,a,n,f] w λe w'=>EH w w' e s (pD s c a n f):=by
 have X:=λW=>zN s a W;have b5:=λW=>ZP n W;have M:=λW=>pC s.p s.c s.m c W;have o:=λk Y (hY:aA Y k (KB s ⟨c,none,none,none,none,0,false⟩ (.pointer none) (.pointer none) (.pointer none) (.pointer none)) 249)=>QW k s ⟨c,none,none,none,none,0,false⟩ _ _ _ _ 1 Y hY;have b9:=λW=>ZW s c n f W;have b7:=λW=>aW s c a W;have J:∀(Y:World) (G:Nat->Prop) (k:Nat),RrO G Y k s ⟨c,some (mB s c n f),some (uB s c a),none,none,0,false⟩->_:=λY G k h=>h.settled rfl rfl;have D:∀(Y:World) (q q1 q2:Nat) (F1 F2:Nat->Prop),_->_->_->_->_->_->_->_:=λY q q1 q2 F1 F2=>@RrO.join w Y q q1 q2 s c (mB s c n f) (uB s c a) F1 F2;have b6:∀(Y:World) (q:Nat),aA Y q (YA s (uB s c a) (.pointer none)) 246->_:=λY q h=>PX h;obtain⟨t2,b,bb⟩:∃t2:Rr,Hid (t2=if spB s a=true/\lenB n=true/\0<=uA s.p s.c s.m c then Rr.settle s ⟨c,some (mB s c n f),some (uB s c a),none,none,0,false⟩ else⟨c,none,none,none,none,1,true⟩)/\t2=pD s c a n f:=⟨_,hd' rfl,rfl⟩;rw[<-bb];clear bb;generalize mB s c n f=bw at*;generalize bu:uB s c a=bf at*;clear bu;generalize uA s.p s.c s.m c=sx at*;generalize spB s a=I at*;generalize lenB n=ba at*;generalize lenV n=ln at*;generalize (if I=true then a/64 else 0)=pg at*;generalize (if I=true then a%64 else 0)=cr at*;obtain⟨sp,i,j⟩:=s;dsimp only at X M b9 b7;replace X:=hd' X;replace b5:=hd' b5;replace M:=hd' M;replace o:=hd' o;replace b9:=hd' b9;replace b7:=hd' b7;replace J:=hd' J;replace D:=hd' D;replace b6:=hd' b6;have bs:=(Below.refl w.heap.size w).alloc lr (.cells #[sp,i,j] 23);have t0:=jA w (.cells #[sp,i,j] 23);go_in;go_upto_region 1 with fail;generalize w.alloc (.cells #[sp,i,j] 23)=W at*;obtain⟨H,hH,bg⟩:=hidv w.heap.size;rw[<-bg]at t0|-;have b8:aA W H #[sp,i,j] 23:=t0;have lH:H<W.heap.size:=b8.lt;obtain⟨c0,c1,c2⟩:=ci3 sp i j b8.cell;have cj:w.heap.size<=H:=by omega
 clear t0 bg;go_upto_region 4 with(first|(go_at_call 126;refine(X _).mono ?_;rintro r w1 ⟨rfl,bc⟩;have N:=b8.below bc;have d0:=ci sp (N.cell 0);have d1:=ci i (N.cell 1);have d2:=ci j (N.cell 2))|(go_at_call 55;refine(b5 _).mono ?_;rintro r w2 ⟨rfl,cb⟩;obtain rfl:=cb.symm));have b4:=qA bs bc;have hr:aA (w1.alloc (.cells (KB ⟨sp,i,j⟩ ⟨c,none,none,none,none,0,false⟩ (.pointer none) (.pointer none) (.pointer none) (.pointer none)) 249)) w1.heap.size (KB ⟨sp,i,j⟩ ⟨c,none,none,none,none,0,false⟩ (.pointer none) (.pointer none) (.pointer none) (.pointer none)) 249:=jA _ _;have E:=b4.trans ((Below.refl w.heap.size w1).alloc b4.size (.cells (KB ⟨sp,i,j⟩ ⟨c,none,none,none,none,0,false⟩ (.pointer none) (.pointer none) (.pointer none) (.pointer none)) 249));have b0:=N.alloc (.cells (KB ⟨sp,i,j⟩ ⟨c,none,none,none,none,0,false⟩ (.pointer none) (.pointer none) (.pointer none) (.pointer none)) 249);have y:H≠w1.heap.size:=λe=>by have:=N.lt;omega
 have l:w.heap.size<=w1.heap.size:=b4.size;dsimp only[KB]at hr E b0 o;generalize w1.alloc (.cells #[sp,i,j,c,.pointer none,.pointer none,.pointer none,.pointer none,.int .i64 0,.bool false] 249)=V at*;obtain⟨K,hK,bh⟩:=hidv w1.heap.size;rw[<-bh]at hr y l|-;have cc:H<V.heap.size:=b0.lt;have cd:K<V.heap.size:=hr.lt;clear bh d0 d1 d2 c0 c1 c2 lH b8 bs b4 bc N;obtain⟨c0,c1,c2⟩:=ci3 sp i j b0.cell;have c8:(I=false/\t2=⟨c,none,none,none,none,1,true⟩)\/(I=true/\ba=false/\t2=⟨c,none,none,none,none,1,true⟩)\/(I=true/\ba=true/\decide (sx<0)=true/\t2=⟨c,none,none,none,none,1,true⟩)\/(I=true/\ba=true/\decide (sx<0)=false/\t2=Rr.settle ⟨sp,i,j⟩ ⟨c,some bw,some bf,none,none,0,false⟩):=by
  rw[b];cases I
  .exact .inl ⟨rfl,jN (by simp)⟩
  cases ba
  .exact .inr (.inl ⟨rfl,rfl,jN (by simp)⟩)
  by_cases h:sx<0
  .exact .inr (.inr (.inl ⟨rfl,rfl,jT h,jN (by simp;omega)⟩))
  exact .inr (.inr (.inr ⟨rfl,rfl,jF h,jP ⟨rfl,rfl,by omega⟩⟩))
 clear b;rcases c8 with⟨rfl,b⟩|⟨rfl,rfl,b⟩|⟨rfl,rfl,h1,b⟩|⟨rfl,rfl,h1,b⟩;case inl=>replace b:=hd' b;go_wp2_with (go_at_call 150;(with_reducible refine(o _ _ hr).mono ?_);rintro r w3 U;obtain rfl:=U.ret);go_returns;rw[b];exact EH.bare l (E.trans (U.only.below E.size λk B=>by rw[B];exact l)) U.row rfl rfl rfl rfl
 case inr.inl=>replace b:=hd' b;go_wp2_with (go_at_call 150;(with_reducible refine(o _ _ hr).mono ?_);rintro r w3 U;obtain rfl:=U.ret);go_returns;rw[b];exact EH.bare l (E.trans (U.only.below E.size λk B=>by rw[B];exact l)) U.row rfl rfl rfl rfl
 case inr.inr.inl=>replace b:=hd' b;go_wp2_with (first|(go_at_call 44;refine(M _).mono ?_;rintro r w4 ⟨rfl,F⟩;have ca:=hr.below F)|(go_at_call 150;(with_reducible refine(o _ _ ca).mono ?_);rintro r w3 U;obtain rfl:=U.ret));go_returns;rw[b];have b3:=qA E F;exact EH.bare l (b3.trans (U.only.below b3.size λk B=>by rw[B];exact l)) U.row rfl rfl rfl rfl
 case inr.inr.inr=>
  replace b:=hd' b;go_upto_region 7 with(first|(go_at_call 44;refine(M _).mono ?_;rintro r w4 ⟨rfl,F⟩));have bz:=hr.below F;have bx:=b0.below F;have b3:=qA E F;clear hr b0 E F c0 c1 c2 cc cd o X b5 M
  have b1:=hd' (λ(Z:World) (q1 q2:Nat) (F1:Nat->Prop) (hb:Below w.heap.size w Z) (bv:aA Z K (KB ⟨sp,i,j⟩ ⟨c,none,none,none,none,0,false⟩ (.pointer (some ⟨q1,0,.none⟩)) (.pointer (some ⟨q2,0,.none⟩)) (.pointer none) (.pointer none)) 249) (h1:RsO F1 Z q1 ⟨sp,i,j⟩ bw) (h2:aA Z q2 (YA ⟨sp,i,j⟩ bf (.pointer none)) 246) (h3:∀k,F1 k->K<k/\k<Z.heap.size) (h4:K<q2/\¬F1 q2)=>
   ((J Z _ K (D Z K q1 q2 F1 (λk=>k=q2) l hb bv h1 (b6 Z q2 h2) h3 (λk B=>by subst B;exact⟨⟨h4.1,h2.lt⟩,h4.2⟩))).mono (λe w' hE=>(⟨hE.1,K,rfl,by
    have hs:=hE.2.1.size
    refine(b.out▸hE.2.2).weak (λk B=>?_) (λk B=>B.2)
    rcases B with B|B
    .exact⟨B.1,Nat.lt_of_lt_of_le B.2 hs⟩
    .exact⟨Nat.le_trans hb.size B.1,B.2⟩,hb.trans (hE.2.1.below hb.size λk B=>by rw[B];exact l)⟩:e=.returned (.tuple #[])/\EH w w' (.returned (.pointer (some ⟨K,0,.none⟩))) ⟨sp,i,j⟩ t2)):jK 151 #[some K] Z λe w'=>e=.returned (.tuple #[])/\EH w w' (.returned (.pointer (some ⟨K,0,.none⟩))) ⟨sp,i,j⟩ t2))
  clear J D b6 b;have c7:Below w.heap.size w w4.drew:=b3.drew;have b2:=bx.drew;have L:=bz.drew;have cp:H<w4.drew.heap.size:=b2.lt;have cq:K<w4.drew.heap.size:=L.lt;have c4:=ce (.pointer none) (L.cell 4);have c5:=ce (.pointer none) (L.cell 5);have hS:=hd' (λ(Y:World) (h:aA Y H #[sp,i,j] 23)=>(⟨h.cell 0,h.cell 1,h.cell 2⟩:Y.cell? ⟨H,0,.none⟩=some (.int .i64 sp)/\Y.cell? ⟨H,1,.none⟩=some (.int .i64 i)/\Y.cell? ⟨H,2,.none⟩=some (.int .i64 j)));have ck:K≠H:=λe=>y e.symm
  go_region_held3 (λY=>Y.cell? ⟨H,0,.none⟩=some (.int .i64 sp)/\Y.cell? ⟨H,1,.none⟩=some (.int .i64 i)/\Y.cell? ⟨H,2,.none⟩=some (.int .i64 j))
   (first|exact hS _ b2|exact hS _ R|exact hS _ O|exact hS _ (R.other y _ _)|exact hS _ (O.other y _ _)|exact hS _ ((R.other y _ _).other y _ _)|exact hS _ ((O.other y _ _).other y _ _))
   (first|(go_at_call 128;refine(b9 _).mono ?_;rintro r wr ⟨q1,rfl,c6,C⟩;have R:aA wr H #[sp,i,j] 23:=(by first|exact b2.below C|exact O.below C|exact(O.other y _ _).below C);obtain⟨va,vb,T⟩:∃va vb,aA wr K #[sp,i,j,c,va,vb,.pointer none,.pointer none,.int .i64 0,.bool false] 249:=(by first|exact⟨_,_,L.below C⟩|exact⟨_,_,S.below C⟩|exact⟨_,_,((S.set 5 _).cast rfl).below C⟩);have z4:=ce va (T.cell 4);have z5:=ce vb (T.cell 5);have zf:=KA T)|(go_at_call 129;refine(b7 _).mono ?_;rintro r wf ⟨q2,rfl,cm,bk,z⟩;have O:aA wf H #[sp,i,j] 23:=(by first|exact b2.below z|exact R.below z|exact(R.other y _ _).below z);obtain⟨va,vb,S⟩:∃va vb,aA wf K #[sp,i,j,c,va,vb,.pointer none,.pointer none,.int .i64 0,.bool false] 249:=(by first|exact⟨_,_,L.below z⟩|exact⟨_,_,T.below z⟩|exact⟨_,_,((T.set 4 _).cast rfl).below z⟩);have y4:=ce va (S.cell 4);have y5:=ce vb (S.cell 5);have yf:=KA S))
  have cg:=C.size;have ch:=z.size;have cf:=bk.lt;have bi:¬(w4.drew.heap.size<=K/\K<wr.heap.size):=λe=>by omega
  have bm:Below w.heap.size w ((wf.setCell ⟨K,4,.none⟩ (.pointer (some ⟨q1,0,.none⟩))).setCell ⟨K,5,.none⟩ (.pointer (some ⟨q2,0,.none⟩))):=((qA (qA c7 C) z).setCell (p:=⟨K,4,.none⟩) l _).setCell (p:=⟨K,5,.none⟩) l _;have bn:=(((L.below C).below z).set 4 (.pointer (some ⟨q1,0,.none⟩))).set 5 (.pointer (some ⟨q2,0,.none⟩));have bp:=((c6.bel z).setK bi 4 (.pointer (some ⟨q1,0,.none⟩))).setK bi 5 (.pointer (some ⟨q2,0,.none⟩));have bj:q2≠K:=λe=>by omega
  have bq:=(bk.other bj 4 (.pointer (some ⟨q1,0,.none⟩))).other bj 5 (.pointer (some ⟨q2,0,.none⟩));have cl:((wf.setCell ⟨K,4,.none⟩ (.pointer (some ⟨q1,0,.none⟩))).setCell ⟨K,5,.none⟩ (.pointer (some ⟨q2,0,.none⟩))).heap.size=wf.heap.size:=(size_set _ _ _).trans (size_set _ _ _);generalize (wf.setCell ⟨K,4,.none⟩ (.pointer (some ⟨q1,0,.none⟩))).setCell ⟨K,5,.none⟩ (.pointer (some ⟨q2,0,.none⟩))=Z at*;have c9:=hd' (b1 Z q1 q2 _ bm (bn.cast rfl) bp bq (λk B=>by omega) ⟨by omega,λe=>by omega⟩);clear bm bn bp bq b1;go_wp2_with (go_at_call 151;(with_reducible refine c9.out.mono ?_);rintro r w9 ⟨rfl,hB⟩);go_returns;exact hB
end

end Go.Proofs.YtkilokkopbajkaaGreat
