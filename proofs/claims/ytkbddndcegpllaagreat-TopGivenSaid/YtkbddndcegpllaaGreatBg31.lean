/- Texts bound together: JobM JobN JobS EvR StkP StkW. -/
import Derived.Deep.RegionLawGrows

import Derived.Deep.RegionHeldLaw

import Derived.Test.YtkbddndcegpllaaGreatBg30

import Derived.Test.YtkbddndcegpllaaGreatBg28

set_option linter.all false
set_option maxHeartbeats 4000000
set_option maxRecDepth 100000
namespace Go.Proofs.YtkbddndcegpllaaGreat

section

open Go.RowKit

attribute [local go_sem ↓] Go.wp_at_zero Go.wp_at_succ

def zg2 (s:Sh) (cl:Int) (v1 v2:Value):Array Value:= #[v1,v2,.int .i64 s.p,.int .i64 s.c,.int .i64 s.m,.int .i64 cl]
def MalO (F:Nat->Prop) (w:World) (q:Nat) (s:Sh) (cl:Int) (r:Rs) (c:Option Cm):Prop:=
 (∀ k,F k->k < w.heap.size)/\F q/\∃ q1 q2 F1,(∀ k,F1 k->F k/\k≠q)/\zaa w q (zg2 s cl (.pointer (some ⟨q1,0,.none⟩)) (ptrV c q2)) 234/\RsO F1 w q1 s r/\
  (∀ x,c=some x->(F q2/\q2≠q/\¬ F1 q2)/\zaa w q2 (ze3 s x) 311)
theorem MalO.only{F G:Nat->Prop}{w w':World}{q:Nat}{s:Sh}{cl:Int}{r:Rs}{c:Option Cm}(h:MalO F w q s cl r c)(i:Only G w w')(hd:∀ k,F k->¬ G k):MalO F w' q s cl r c:=by
 obtain⟨o,m,q1,q2,n,b,f,p,hc⟩:=h;exact⟨fun k j=>Nat.lt_of_lt_of_le (o k j) i.size,m,q1,q2,n,b,f.only i (hd q m),p.only i (fun k j=>hd k (b k j).1),fun x l=>⟨(hc x l).1,(hc x l).2.only i (hd q2 (hc x l).1.1)⟩⟩
theorem z16{q2:Nat}{s:Sh}{c:Option Cm}{w:World}(h:∀ x,c=some x->zaa w q2 (ze3 s x) 311):Calls Tryz.prog 191 #[ptrV c q2] w fun e w'=>e= .returned (.bool (zck c))/\w'=w:=by
 rcases c with _|u
 ·exact zi5 w
 exact zo9 q2 _ u.done w (h u rfl) rfl
theorem zvm{F:Nat->Prop}{q:Nat}{s:Sh}{cl:Int}{r:Rs}{c:Option Cm}{w:World}(h:MalO F w q s cl r c):
  Calls Tryz.prog 248 #[.pointer (some ⟨q,0,.none⟩)] w fun e w'=>e= .returned (.bool (Jb.mal r c).done)/\Below w.heap.size w w':=by
 obtain⟨U,S,q1,q2,F1,H,j,I,hc⟩:=h;have D:q<w.heap.size:=U q S;have c0:=ce (.pointer (some ⟨q1,0,.none⟩)) (j.cell 0);have l:=hd' (zei I);have C:=hd' (fun Y (p:Below w.heap.size w Y)=>zil (I.bel p));have z:=hd' (fun Y (p:Below w.heap.size w Y)=>z16 (fun x hx=>((hc x hx).2.below p)));have V:=hd' (fun Y (p:Below w.heap.size w Y)=>(⟨(j.below p).cell 0,(j.below p).cell 1⟩:Y.cell? ⟨q,0,.none⟩=some (.pointer (some ⟨q1,0,.none⟩))/\Y.cell? ⟨q,1,.none⟩=some (ptrV c q2)));have n:(Jb.mal r c).done=(r.done&&(!r.got.isSome||zck c)):=rfl;rw[n];clear S U H j I hc n;obtain⟨⟨bl,O,R,M,N⟩,hb⟩:∃ b,b=r.got.getD Blk.zero:=⟨_,rfl⟩;unfold gotV at l;rw[<-hb]at l;dsimp only[zg0]at l;clear hb;generalize r.got.isSome=L at *;generalize r.done=rd at *;generalize zck c=ce at *;generalize ptrV c q2=pv at *;go_in;go_upto_region 2 with(go_at_call 189;(with_reducible refine l.out.mono ?_);rintro r Z ⟨rfl,y⟩);have i:=y.trans ((Below.refl w.heap.size Z).alloc y.size (.cells #[.bool bl,.int .i64 O,.int .i64 R,.int .i64 M,.int .i64 N] 264));generalize Z.alloc (.cells #[.bool bl,.int .i64 O,.int .i64 R,.int .i64 M,.int .i64 N] 264)=X at *;have o:=hd' (C.out X i);have G:=hd' (z.out X i);obtain⟨k0,k1⟩:=V.out X i;have lX:q<X.heap.size:=Nat.lt_of_lt_of_le D i.size;clear C z l c0 D V;cases rd;case false=>go_wp2_with (go_at_call 192;(with_reducible refine o.out.mono ?_);rintro r w2 ⟨rfl,m⟩;obtain rfl:=m.symm);go_returns;exact⟨rfl,i⟩
 case true=>
  cases L;case false=>go_wp2_with (go_at_call 192;(with_reducible refine o.out.mono ?_);rintro r w2 ⟨rfl,m⟩;obtain rfl:=m.symm);go_returns;exact⟨rfl,i⟩
  case true=>cases ce;all_goals go_wp2_with (first|(go_at_call 192;(with_reducible refine o.out.mono ?_);rintro r w2 ⟨rfl,m⟩;obtain rfl:=m.symm)|(go_at_call 191;(with_reducible refine G.out.mono ?_);rintro r w3 ⟨rfl,J⟩;obtain rfl:=J.symm));go_returns;exact⟨rfl,i⟩
theorem zy3{F:Nat->Prop}{q:Nat}{s:Sh}{cl:Int}{r:Rs}{c:Option Cm}{w:World}(h:MalO F w q s cl r c):
  Calls Tryz.prog 250 #[.pointer (some ⟨q,0,.none⟩)] w fun e w'=>e= .returned (.int .i64 (Jb.mal r c).err)/\Below w.heap.size w w':=by
 obtain⟨H,G,q1,q2,M,n,l,I,hc⟩:=h;have L:q<w.heap.size:=H q G;have c0:=ce (.pointer (some ⟨q1,0,.none⟩)) (l.cell 0);have i:=hd' (zei I);have j:(Jb.mal r c).err=if r.got.isSome=true then 0 else 3:=rfl;rw[j];clear G H n l I hc j;obtain⟨⟨bl,C,D,y,z⟩,hb⟩:∃ b,b=r.got.getD Blk.zero:=⟨_,rfl⟩;unfold gotV at i;rw[<-hb]at i;dsimp only[zg0]at i;clear hb;generalize r.got.isSome=p at *;go_in;go_upto_region 2 with(go_at_call 189;(with_reducible refine i.out.mono ?_);rintro r J ⟨rfl,m⟩);have o:=m.trans ((Below.refl w.heap.size J).alloc m.size (.cells #[.bool bl,.int .i64 C,.int .i64 D,.int .i64 y,.int .i64 z] 264));generalize J.alloc (.cells #[.bool bl,.int .i64 C,.int .i64 D,.int .i64 y,.int .i64 z] 264)=X at *;cases p;all_goals go_wp2_with fail;go_returns;exact⟨rfl,o⟩
theorem ztz(v:Value)(w:World):
  Calls Tryz.prog 251 #[v] w fun e w'=>e= .returned (.bool false)/\w'=w:=by
 go_in;go_wp2_with fail;go_returns;exact⟨rfl,rfl⟩
theorem zux{F:Nat->Prop}{q:Nat}{s:Sh}{cl:Int}{r:Rs}{c:Option Cm}{w:World}(h:MalO F w q s cl r c):
  Calls Tryz.prog 252 #[.pointer (some ⟨q,0,.none⟩)] w fun e w'=>e= .returned (gotV (Jb.mal r c).took)/\Below w.heap.size w w':=by
 obtain⟨l,h1,q1,q2,F1,ba,M,hr,hc⟩:=h;have b5:q<w.heap.size:=l q h1;have L:=hd' (fun Y (hY:Below w.heap.size w Y)=>zei (hr.bel hY));have b9:=hd' (fun Y (hY:Below w.heap.size w Y)=>z16 (fun x hx=>((hc x hx).2.below hY)));have hk:=hd' (fun Y (hY:Below w.heap.size w Y)=>(⟨(M.below hY).cell 0,(M.below hY).cell 1⟩:Y.cell? ⟨q,0,.none⟩=some (.pointer (some ⟨q1,0,.none⟩))/\Y.cell? ⟨q,1,.none⟩=some (ptrV c q2)));have b0:(Jb.mal r c).took=if zck c=true then r.got else none:=rfl;obtain⟨tk,n,b1⟩:∃ t,Hid (t=(Jb.mal r c).took)/\t=(Jb.mal r c).took:=⟨_,hd' rfl,rfl⟩;rw[<-b1];clear b1;rw[b0]at n;clear h1 l ba M hr hc b0;obtain⟨⟨bl,C,D,y,z⟩,hb⟩:∃ b,b=r.got.getD Blk.zero:=⟨_,rfl⟩;obtain⟨b7,j⟩:∃ o,o=r.got.isSome:=⟨_,rfl⟩;have O:(b7=false/\gotV tk= .tuple #[.agg #[.bool false,.int .i64 0,.int .i64 0,.int .i64 0,.int .i64 0],.bool false])\/(b7=true/\zck c=false/\gotV tk= .tuple #[.agg #[.bool false,.int .i64 0,.int .i64 0,.int .i64 0,.int .i64 0],.bool false])\/(b7=true/\zck c=true/\gotV tk= .tuple #[.agg #[.bool bl,.int .i64 C,.int .i64 D,.int .i64 y,.int .i64 z],.bool true]):=by
  rcases hg:r.got with _|⟨gl,gp,gs,gk,gn⟩
  ·rw[hg]at n j;exact .inl ⟨j,by rw[n.out];split<;>rfl⟩
  rw[hg]at n j hb;have bc:(⟨bl,C,D,y,z⟩:Blk)=⟨gl,gp,gs,gk,gn⟩:=hb;cases hce:zck c
  ·exact .inr (.inl ⟨j,rfl,by rw[n.out,hce];rfl⟩)
  exact .inr (.inr ⟨j,rfl,by rw[n.out,hce,if_pos rfl,<- bc];rfl⟩)
 unfold gotV at L;rw[<-hb,<- j]at L;dsimp only[zg0]at L;clear hb j n;generalize zck c=bg at *;generalize ptrV c q2=pv at *;have I:=(Below.refl w.heap.size w).alloc lr (.cells #[.bool false,.int .i64 0,.int .i64 0,.int .i64 0,.int .i64 0] 264);have hE:zaa (w.alloc (.cells #[.bool false,.int .i64 0,.int .i64 0,.int .i64 0,.int .i64 0] 264)) w.heap.size #[.bool false,.int .i64 0,.int .i64 0,.int .i64 0,.int .i64 0] 264:=heap_alloc_new _ _;go_in;go_upto_region 1 with fail;generalize w.alloc (.cells #[.bool false,.int .i64 0,.int .i64 0,.int .i64 0,.int .i64 0] 264)=X0 at *;obtain⟨E,bh,S⟩:=hidv w.heap.size;rw[<-S]at hE ⊢;have H:w.heap.size<=E:=by omega
 have bj:q≠E:=by omega
 clear S;obtain⟨k0,k1⟩:=hk.out X0 I;have bf:q<X0.heap.size:=Nat.lt_of_lt_of_le b5 I.size;have Z:=hd' (L.out X0 I);go_upto_region 2 with(go_at_call 189;(with_reducible refine Z.out.mono ?_);rintro r w1 ⟨rfl,b3⟩);have b2:=hE.below b3;have b4:=zab I b3;have R:=b4.trans ((Below.refl w.heap.size w1).alloc b4.size (.cells #[.bool bl,.int .i64 C,.int .i64 D,.int .i64 y,.int .i64 z] 264));have m:=b2.alloc (.cells #[.bool bl,.int .i64 C,.int .i64 D,.int .i64 y,.int .i64 z] 264);have hG:zaa (w1.alloc (.cells #[.bool bl,.int .i64 C,.int .i64 D,.int .i64 y,.int .i64 z] 264)) w1.heap.size #[.bool bl,.int .i64 C,.int .i64 D,.int .i64 y,.int .i64 z] 264:=heap_alloc_new _ _;have bb:w1.heap.size≠E:=fun e=>by have:=b2.lt;omega
 generalize w1.alloc (.cells #[.bool bl,.int .i64 C,.int .i64 D,.int .i64 y,.int .i64 z] 264)=X at *;obtain⟨G,bi,V⟩:=hidv w1.heap.size;rw[<-V]at hG bb ⊢;clear V k0 k1 bf;have b8:=hd' (b9.out X R);obtain⟨k0,k1⟩:=hk.out X R;have lX:q<X.heap.size:=Nat.lt_of_lt_of_le b5 R.size;have lE:E<X.heap.size:=m.lt;have lG:G<X.heap.size:=hG.lt;have fE:=zax m;have e0:=ce (.bool false) (m.cell 0);have e1:=ci 0 (m.cell 1);have e2:=ci 0 (m.cell 2);have e3:=ci 0 (m.cell 3);have e4:=ci 0 (m.cell 4);have g0:=ce (.bool bl) (hG.cell 0);have g1:=ci C (hG.cell 1);have g2:=ci D (hG.cell 2);have g3:=ci y (hG.cell 3);have g4:=ci z (hG.cell 4);clear b9 L Z b5 hk I b3 hE b2 b4;replace O:=hd' O;have i:∀ (U:World) (x0:Bool) (x1 x2 x3 x4:Int),U=(((((X.setCell ⟨E,0,.none⟩ (.bool x0)).setCell ⟨E,1,.none⟩ (.int .i64 x1)).setCell ⟨E,2,.none⟩ (.int .i64 x2)).setCell ⟨E,3,.none⟩ (.int .i64 x3)).setCell ⟨E,4,.none⟩ (.int .i64 x4))->zaa U E #[.bool x0,.int .i64 x1,.int .i64 x2,.int .i64 x3,.int .i64 x4] 264/\Below w.heap.size w U:=fun U x0 x1 x2 x3 x4 hU=>by subst hU;exact⟨(((((m.set 0 (.bool x0)).set 1 (.int .i64 x1)).set 2 (.int .i64 x2)).set 3 (.int .i64 x3)).set 4 (.int .i64 x4)),(((((R.setCell (p:=⟨E,0,.none⟩) H (.bool x0)).setCell (p:=⟨E,1,.none⟩) H (.int .i64 x1)).setCell (p:=⟨E,2,.none⟩) H (.int .i64 x2)).setCell (p:=⟨E,3,.none⟩) H (.int .i64 x3)).setCell (p:=⟨E,4,.none⟩) H (.int .i64 x4))⟩
 replace i:=hd' i;rcases O.out with⟨rfl,N⟩|⟨rfl,rfl,N⟩|⟨rfl,rfl,N⟩;case inl=>replace N:=hd' N;go_wp2_with fail;obtain⟨l,J⟩:=i.out _ _ _ _ _ _ rfl;generalize ((((X.setCell ⟨E,0,.none⟩ (.bool false)).setCell ⟨E,1,.none⟩ (.int .i64 0)).setCell ⟨E,2,.none⟩ (.int .i64 0)).setCell ⟨E,3,.none⟩ (.int .i64 0)).setCell ⟨E,4,.none⟩ (.int .i64 0)=U at *;have r0:=ce (.bool false) (l.cell 0);have r1:=ci 0 (l.cell 1);have r2:=ci 0 (l.cell 2);have r3:=ci 0 (l.cell 3);have r4:=ci 0 (l.cell 4);exact bodyPost_ret (v:= .tuple #[.agg #[.bool false,.int .i64 0,.int .i64 0,.int .i64 0,.int .i64 0],.bool false]) (by simp[results,Tryz.results252,go_sem,r0,r1,r2,r3,r4]) rfl ⟨by rw[N.out],J⟩
 case inr.inl=>replace N:=hd' N;go_wp2_with (go_at_call 191;(with_reducible refine b8.out.mono ?_);rintro r w3 ⟨rfl,b6⟩;obtain rfl:=b6.symm);obtain⟨l,J⟩:=i.out _ _ _ _ _ _ rfl;generalize ((((X.setCell ⟨E,0,.none⟩ (.bool false)).setCell ⟨E,1,.none⟩ (.int .i64 0)).setCell ⟨E,2,.none⟩ (.int .i64 0)).setCell ⟨E,3,.none⟩ (.int .i64 0)).setCell ⟨E,4,.none⟩ (.int .i64 0)=U at *;have r0:=ce (.bool false) (l.cell 0);have r1:=ci 0 (l.cell 1);have r2:=ci 0 (l.cell 2);have r3:=ci 0 (l.cell 3);have r4:=ci 0 (l.cell 4);exact bodyPost_ret (v:= .tuple #[.agg #[.bool false,.int .i64 0,.int .i64 0,.int .i64 0,.int .i64 0],.bool false]) (by simp[results,Tryz.results252,go_sem,r0,r1,r2,r3,r4]) rfl ⟨by rw[N.out],J⟩
 case inr.inr=>replace N:=hd' N;go_wp2_with (go_at_call 191;(with_reducible refine b8.out.mono ?_);rintro r w3 ⟨rfl,b6⟩;obtain rfl:=b6.symm);obtain⟨l,J⟩:=i.out _ bl C D y z rfl;generalize ((((X.setCell ⟨E,0,.none⟩ (.bool bl)).setCell ⟨E,1,.none⟩ (.int .i64 C)).setCell ⟨E,2,.none⟩ (.int .i64 D)).setCell ⟨E,3,.none⟩ (.int .i64 y)).setCell ⟨E,4,.none⟩ (.int .i64 z)=U at *;have r0:=ce (.bool bl) (l.cell 0);have r1:=ci C (l.cell 1);have r2:=ci D (l.cell 2);have r3:=ci y (l.cell 3);have r4:=ci z (l.cell 4);exact bodyPost_ret (v:= .tuple #[.agg #[.bool bl,.int .i64 C,.int .i64 D,.int .i64 y,.int .i64 z],.bool true]) (by simp[results,Tryz.results252,go_sem,r0,r1,r2,r3,r4]) rfl ⟨by rw[N.out],J⟩
theorem MalO.zuw{F:Nat->Prop}{q p b:Nat}{s:Sh}{cl:Int}{r:Rs}{c:Option Cm}{m:Mem}{w:World}(h:MalO F w q s cl r c)(U:zaq w p b m)(G:¬ F p)(hb:¬ F b)(O:Fits s m)(R:(∀ x,r.seeker=some x->skOk s x)/\(∀ x,r.runner=some x->rnOk s x))(hs:m.st<1000000000):
  ∃ q1,w.cell? ⟨q,0,.none⟩=some (.pointer (some ⟨q1,0,.none⟩))/\(Calls Tryz.prog 192 #[.pointer (some ⟨q1,0,.none⟩)] w fun e w'=>e= .returned (.bool r.done)/\w'=w)/\
   Calls Tryz.prog 253 #[.pointer (some ⟨q1,0,.none⟩),.pointer (some ⟨p,0,.none⟩)] w fun e w'=>zef F p b w w' e (zb0 s r m).2/\MalO (grow F w w') w' q s cl (zb0 s r m).1 c:=by
 obtain⟨C,z,q1,q2,o,i,l,J,hc⟩:=h;refine⟨q1,l.cell 0,zil J,(zo5 J U (fun e=>G (i p e).1) (fun e=>hb (i b e).1) O R hs).mono fun e w' hS=>?_⟩;obtain⟨t,N⟩:=hS;have H:=t.only.size;have S:¬ (o q\/q=p\/q=b):=by
  rintro(e|e|e)
  ·exact(i q e).2 rfl
  ·exact G (e ▸ z)
  exact hb (e ▸ z)
 have y:∀ k,F k->¬ o k->¬ (o k\/k=p\/k=b):=fun k j n e=>by
  rcases e with e|e|e
  ·exact n e
  ·exact G (e ▸ j)
  exact hb (e ▸ j)
 have D:∀ k,F k->¬ o k->¬ grow o w w' k:=fun k j n e=>by
  rcases e with e|e
  ·exact n e
  have:=C k j;omega
 refine⟨⟨t.ret,t.wds,t.only.weak fun k j=>j.imp (fun e=>(i k e).1) id⟩,zec C H,.inl z,q1,q2,grow o w w',fun k j=>?_,l.only t.only S,N,?_⟩
 ·rcases j with j|j
  ·exact⟨.inl (i k j).1,(i k j).2⟩
  exact⟨.inr j,fun e=>by have:=C q z;omega⟩
 intro x V;obtain⟨⟨a1,L,I⟩,M⟩:=hc x V;exact⟨⟨.inl a1,L,D _ a1 I⟩,M.only t.only (y _ a1 I)⟩
theorem zt8{F:Nat->Prop}{q p b:Nat}{s:Sh}{cl:Int}{r:Rs}{c:Option Cm}{m:Mem}{w:World}(h:MalO F w q s cl r c)(hw:zaq w p b m)(hp:¬ F p)(hb:¬ F b)(hf:Fits s m)(ho:(∀ x,r.seeker=some x->skOk s x)/\(∀ x,r.runner=some x->rnOk s x))(hs:m.st<1000000000)
  (ba:r.done=false\/(r.done=true/\c=none/\∃ b,r.got=some b)):
  Calls Tryz.prog 249 #[.pointer (some ⟨q,0,.none⟩),.pointer (some ⟨p,0,.none⟩)] w fun e w'=>zef F p b w w' e (Jb.step s cl m (.mal r c)).2/\∃ r' c',(Jb.step s cl m (.mal r c)).1= .mal r' c'/\MalO (grow F w w') w' q s cl r' c':=by
 obtain⟨q1,c0,C,b3⟩:=h.zuw hw hp hb hf ho hs;rcases ba with j|⟨j,rfl,⟨bl,y,z,n,o⟩,hg⟩
 ·have hr:Jb.step s cl m (.mal r c)=(.mal (zb0 s r m).1 c,(zb0 s r m).2):=by unfold Jb.step;dsimp only;rw[if_pos j]
  rw[hr];rw[j]at C;replace C:=hd' C;replace b3:=hd' b3;have i:∀ (e:Ending) (O:World),zef F p b w O e (zb0 s r m).2/\MalO (grow F w O) O q s cl (zb0 s r m).1 c->zef F p b w O e (zb0 s r m).2/\∃ r' c',(Jb.mal (zb0 s r m).1 c,(zb0 s r m).2).1= .mal r' c'/\MalO (grow F w O) O q s cl r' c':=fun e O U=>⟨U.1,_,_,rfl,U.2⟩;replace i:=hd' i;dsimp only at i ⊢;have lq:q<w.heap.size:=h.1 q h.2.1;clear h hr hw hp hb hf ho hs j;go_in;go_wp2_with (first|(go_at_call 192;(with_reducible refine C.out.mono ?_);rintro r w2 ⟨rfl,bg⟩;obtain rfl:=bg.symm)|(go_at_call 253;(with_reducible refine b3.out.mono ?_);rintro r O hS;obtain rfl:=hS.1.ret));go_returns;exact i.out _ _ hS
 have hr:Jb.step s cl m (.mal r none)=(.mal r (some (zb3 s (zc4 s cl ⟨bl,y,z,n,o⟩) m).1),(zb3 s (zc4 s cl ⟨bl,y,z,n,o⟩) m).2):=by
  unfold Jb.step;dsimp only;rw[if_neg (by rw[j];decide)];have:zhp s cl r none=some (zc4 s cl ⟨bl,y,z,n,o⟩):=by unfold zhp;rw[hg]
  rw[this]
 rw[hr];rw[j]at C;replace C:=hd' C;clear b3 hr;obtain⟨hF,h1,H,q2,F1,J,b6,bf,_⟩:=h;have c4:H=q1:=by have:=(b6.cell 0).symm.trans c0;simpa[zg2] using this
 subst c4;have lq:q<w.heap.size:=hF q h1;have M:=zei bf;rw[hg]at M;replace M:Calls Tryz.prog 189 #[.pointer (some ⟨H,0,.none⟩)] w fun e w'=>e= .returned (.tuple #[.agg #[.bool bl,.int .i64 y,.int .i64 z,.int .i64 n,.int .i64 o],.bool true])/\Below w.heap.size w w':=M;replace M:=hd' M;have gn:=fun W=>ztm s cl ⟨bl,y,z,n,o⟩ W;dsimp only at gn;have b2:=fun Y l (hY:zaa Y l (ze3 s (zc4 s cl ⟨bl,y,z,n,o⟩)) 311) (cf:zaq Y p b m) (c6:l≠p) (c5:l≠b)=>zou l p b s (zc4 s cl ⟨bl,y,z,n,o⟩) m Y hY cf c6 c5 hf (zpt _ _ _) hs;have cq:=hw.ltp;have cm:=hw.ltb;have bv:q≠p:=fun e=>hp (e ▸ h1);have bu:q≠b:=fun e=>hb (e ▸ h1)
 have i:∀ (w4 I:World) (e:Ending) (l:Nat),Below w.heap.size w w4->w4.heap.size<=I.heap.size->zaa I q (zg2 s cl (.pointer (some ⟨H,0,.none⟩)) (.pointer (some ⟨l,0,.none⟩))) 234->w.heap.size<=l->zaa I l (ze3 s (zb3 s (zc4 s cl ⟨bl,y,z,n,o⟩) m).1) 311->zaq I p b (zb3 s (zc4 s cl ⟨bl,y,z,n,o⟩) m).2->Only (fun k=>k=q\/k=p\/k=b) w I->
   zef F p b w I (.returned (.tuple #[])) (zb3 s (zc4 s cl ⟨bl,y,z,n,o⟩) m).2/\∃ r' c',Jb.mal r (some (zb3 s (zc4 s cl ⟨bl,y,z,n,o⟩) m).1)= .mal r' c'/\MalO (grow F w I) I q s cl r' c':=fun w4 I e l ck cr D bj bi bh bb=>by
  have bw:=bb.size
  refine⟨⟨rfl,bh,bb.weak fun k N=>?_⟩,_,_,rfl,zec hF bw,.inl h1,H,l,F1,fun k N=>⟨.inl (J k N).1,(J k N).2⟩,D,bf.only bb (fun k N U=>?_),fun x hx=>?_⟩
  ·rcases N with rfl|N|N
   ·exact .inl h1
   ·exact .inr (.inl N)
   ·exact .inr (.inr N)
  ·rcases U with rfl|rfl|rfl
   ·exact(J _ N).2 rfl
   ·exact hp (J _ N).1
   ·exact hb (J _ N).1
  ·injection hx with hx
   subst hx
   exact⟨⟨.inr ⟨bj,bi.lt⟩,fun e=>by omega,fun e=>by have:=hF _ (J _ e).1;omega⟩,bi⟩
 generalize zb3 s (zc4 s cl ⟨bl,y,z,n,o⟩) m=ch at *;generalize zc4 s cl ⟨bl,y,z,n,o⟩=cg at *;replace b2:=hd' b2;replace i:=hd' i;dsimp only at i ⊢;obtain⟨sp,sc,sm⟩:=s;dsimp only at gn;replace gn:=hd' gn;clear hp hb hf ho hs j hg hF h1 J bf;go_in;go_upto_region 3 with(first|(go_at_call 192;(with_reducible refine C.out.mono ?_);rintro r w2 ⟨rfl,bg⟩;obtain rfl:=bg.symm)|(go_at_call 189;(with_reducible refine M.out.mono ?_);rintro r O ⟨rfl,b0⟩));have b9:=b0.trans ((Below.refl w.heap.size O).alloc b0.size (.cells #[.bool bl,.int .i64 y,.int .i64 z,.int .i64 n,.int .i64 o] 264));have b8:zaa (O.alloc (.cells #[.bool bl,.int .i64 y,.int .i64 z,.int .i64 n,.int .i64 o] 264)) O.heap.size #[.bool bl,.int .i64 y,.int .i64 z,.int .i64 n,.int .i64 o] 264:=heap_alloc_new _ _;have c8:w.heap.size<=O.heap.size:=b0.size;generalize O.alloc (.cells #[.bool bl,.int .i64 y,.int .i64 z,.int .i64 n,.int .i64 o] 264)=X at *;obtain⟨E,c7,b4⟩:=hidv O.heap.size;simp only[<-b4]at b8 c8 ⊢;have cd:q≠E:=by omega
 clear b4 c7 b0 c0 M C;have S:zaa X q (zg2 ⟨sp,sc,sm⟩ cl (.pointer (some ⟨H,0,.none⟩)) (.pointer none)) 234:=b6.below b9;have bx:=hw.below b9;have lX:q<X.heap.size:=S.lt;have x0:=ce (.pointer (some ⟨H,0,.none⟩)) (S.cell 0);have x1:=ce (.pointer none) (S.cell 1);go_upto_region 4 with fail;have j:=S.drew;have V:=b8.drew;have bz:=bx.drew;have b1:=b9.drew;clear x0 x1 lX;have lX:q<X.drew.heap.size:=j.lt;have lE:E<X.drew.heap.size:=V.lt;have hS:=hd' (fun (Y:World) (v:Value) (h:zaa Y q (zg2 ⟨sp,sc,sm⟩ cl (.pointer (some ⟨H,0,.none⟩)) v) 234) (h2:zaa Y E #[.bool bl,.int .i64 y,.int .i64 z,.int .i64 n,.int .i64 o] 264)=>(⟨h.cell 2,h.cell 3,h.cell 4,h.cell 5,h2.cell 0,h2.cell 1,h2.cell 2,h2.cell 3,h2.cell 4⟩:Y.cell? ⟨q,2,.none⟩=some (.int .i64 sp)/\Y.cell? ⟨q,3,.none⟩=some (.int .i64 sc)/\Y.cell? ⟨q,4,.none⟩=some (.int .i64 sm)/\Y.cell? ⟨q,5,.none⟩=some (.int .i64 cl)/\Y.cell? ⟨E,0,.none⟩=some (.bool bl)/\Y.cell? ⟨E,1,.none⟩=some (.int .i64 y)/\Y.cell? ⟨E,2,.none⟩=some (.int .i64 z)/\Y.cell? ⟨E,3,.none⟩=some (.int .i64 n)/\Y.cell? ⟨E,4,.none⟩=some (.int .i64 o)))
 go_region_held3 (fun Y=>Y.cell? ⟨q,2,.none⟩=some (.int .i64 sp)/\Y.cell? ⟨q,3,.none⟩=some (.int .i64 sc)/\Y.cell? ⟨q,4,.none⟩=some (.int .i64 sm)/\Y.cell? ⟨q,5,.none⟩=some (.int .i64 cl)/\Y.cell? ⟨E,0,.none⟩=some (.bool bl)/\Y.cell? ⟨E,1,.none⟩=some (.int .i64 y)/\Y.cell? ⟨E,2,.none⟩=some (.int .i64 z)/\Y.cell? ⟨E,3,.none⟩=some (.int .i64 n)/\Y.cell? ⟨E,4,.none⟩=some (.int .i64 o))
  (first|exact hS.out _ _ j V|exact hS.out _ _ hC b7|exact hS.out _ _ ((hC.set 1 _).cast rfl) (b7.other (fun e=>cd e.symm) _ _))
  (first|(go_at_call 195;(with_reducible refine(gn.out _).mono ?_);rintro r I ⟨l,rfl,bj,D,L⟩;have hC:=j.below L;have b7:=V.below L;have z1:=ce (.pointer none) (hC.cell 1);have zf:=zax hC))
 have cj:=L.size;have cp:w.heap.size<=X.drew.heap.size:=b1.size;have b5:l≠q:=by omega
 have bq:l≠p:=by omega
 have bm:l≠b:=by omega
 have bh:=(bz.below L).other bv bu 1 (.pointer (some ⟨l,0,.none⟩));have bc:=(hC.set 1 (.pointer (some ⟨l,0,.none⟩))).cast (cs':=zg2 ⟨sp,sc,sm⟩ cl (.pointer (some ⟨H,0,.none⟩)) (.pointer (some ⟨l,0,.none⟩))) rfl;have cb:=D.other b5 1 (.pointer (some ⟨l,0,.none⟩));have cc:Only (fun k=>k=q) w (I.setCell ⟨q,1,.none⟩ (.pointer (some ⟨l,0,.none⟩))):=Only.setCell (F:=fun k=>k=q) (Only.of_below (zab b1 L)) (.inl rfl) _;have c9:Below w.heap.size w I:=zab b1 L;have bw:I.heap.size=(I.setCell ⟨q,1,.none⟩ (.pointer (some ⟨l,0,.none⟩))).heap.size:=(size_set _ _ _).symm;clear hC b7 z1 zf j V bz b1 D L hS S bx b8;generalize I.setCell ⟨q,1,.none⟩ (.pointer (some ⟨l,0,.none⟩))=Z at *;have y1:=ce (.pointer (some ⟨l,0,.none⟩)) (bc.cell 1);have lZ:q<Z.heap.size:=bc.lt;have ca:=hd' (b2.out Z l cb bh bq bm);clear b2 gn;go_wp2_with (first|(go_at_call 254;(with_reducible refine ca.out.mono ?_);rintro r w8 R;obtain rfl:=R.ret));go_returns;have cs:=R.only.size;refine i.out I _ (.returned (.tuple #[])) l c9 (by omega) (bc.only R.only ?_) (by omega) R.row R.wds ?_
 ·rintro(e|e|e)
  ·exact b5 e.symm
  ·exact bv e
  exact bu e
 refine(cc.weak (G:=fun k=>k=q\/k=p\/k=b) (fun k N=>.inl N)).trans R.only (fun k N U=>?_);rcases U with rfl|U|U
 ·omega
 ·exact .inr (.inl U)
 exact .inr (.inr U)
end

section

open Go.RowKit

def RdE (w:World) (v:Value) (es:List Ev):Prop:=RdS w 8 v es.length (es.flatMap fun e=> e.cells.toList)
theorem z0f(e:Ev):e.cells.toList.length=8:=rfl
theorem RdE.below{w w':World}{v:Value}{es:List Ev}(h:RdE w v es)(hb:Below w.heap.size w w'):RdE w' v es:=RdS.below h hb
theorem RdE.nth{w:World}{v:Value}{es:List Ev}(h:RdE w v es):∃ ao cap,v= .slice ao es.length cap/\es.length<=cap/\(cap:Int)<=9223372036854775807/\
  (es≠ []->∃ b f,ao=some ⟨b,f,.none⟩/\b<w.heap.size/\∀ i (hi:i<es.length) j,j<8->w.cell? ⟨b,f+i*8+j,.none⟩=(es[i]).cells.toList[j]?):=by
 obtain⟨ao,cap,e,m,n,y,o⟩:=h;refine⟨ao,cap,e,m,n,fun t=>?_⟩;obtain⟨b,f,l,p,q⟩:=o (fun e=>t (List.eq_nil_of_length_eq_zero e));refine⟨b,f,l,p,fun i hi j r=>?_⟩;rw[Nat.add_assoc,q _ (by omega)];exact zsm (fun e:Ev=>e.cells.toList) 8 z0f es i j hi r
theorem RdE.take{w:World}{ao:Option Addr}{cap:Nat}{es:List Ev}(h:RdE w (.slice ao es.length cap) es)(n:Nat)(j:n<=es.length):RdE w (cutV ao 0 n cap 8) (es.take n):=by
 have hc:=RdS.cut (l:=0) (h:=n) h (Nat.zero_le _) j;unfold RdE;have b:(es.take n).length=n:=by rw[List.length_take];omega
 rw[b];have e:(es.take n).flatMap (fun e=>e.cells.toList)=((es.flatMap fun e=>e.cells.toList).drop (0*8)).take ((n-0)*8):=by
  rw[Nat.zero_mul,List.drop_zero,Nat.sub_zero];have f:es.flatMap (fun e=>e.cells.toList)=(es.take n).flatMap (fun e=>e.cells.toList)++(es.drop n).flatMap (fun e=>e.cells.toList):=by rw[<-List.flatMap_append,List.take_append_drop]
  have i:((es.take n).flatMap (fun e=>e.cells.toList)).length=n*8:=by rw[zll _ 8 z0f,b]
  rw[f,<- i,List.take_left]
 rw[e];simpa using hc
structure Fr where
 code:Int
 pc:Int
 regs:List Int
 deriving DecidableEq
def Fr.cells (f:Fr):List Value:= .int .i64 f.code:: .int .i64 f.pc::f.regs.map (.int .i64)
def flat (fs:List Fr):List Value:=fs.flatMap Fr.cells
def zj6 (fs:List Fr):Prop:=∀ f ∈ fs,f.regs.length=8
theorem znb{fs:List Fr}(h:zj6 fs):(flat fs).length=fs.length*10:=by
 induction fs with
 |nil=>rfl;|cons f fs l=>have i:=h f (by simp);have b:=l (fun g j=>h g (by simp[j]));simp only[flat,List.flatMap_cons,List.length_append]at b ⊢;simp only[Fr.cells,List.length_cons,List.length_map,i,b];omega
theorem zja(fs:List Fr)(f:Fr):flat (fs++[f])=flat fs++f.cells:=by simp[flat]
theorem flat_get{fs:List Fr}(h:zj6 fs)(i j:Nat)(hi:i<fs.length)(p:j<10):(flat fs)[i*10+j]?=(fs[i].cells)[j]?:=by
 induction fs generalizing i with
 |nil=>simp at hi
 |cons f fs o=>
  have b:=h f (by simp)
  have n:f.cells.length=10:=by simp[Fr.cells,b]
  have l:zj6 fs:=fun g m=>h g (by simp[m])
  show (f.cells++flat fs)[i*10+j]?=_
  cases i with
  |zero=>rw[List.getElem?_append_left (by omega)];simp
  |succ i=>
   rw[List.getElem?_append_right (by omega),n,show (i+1)*10+j-10=i*10+j from by omega]
   simpa using o l i (by simpa using hi)
structure Stk (T E:TypeId) (B:Nat) (w:World) (s:Nat) (sl:Value) (most:Int) (fs:List Fr):Prop where
 lies:B<=s
 head:w.heap[s]?=some (.cells #[sl,.int .i64 most] T (0,0))
 owns:w.ownsRow B E 10 sl fs.length (flat fs)
 apart:sl.ownBlock≠some s
 regs:zj6 fs
def zrq:Value:= .agg #[.int .i64 0,.int .i64 0,.int .i64 0,.int .i64 0,.int .i64 0,.int .i64 0,.int .i64 0,.int .i64 0,.int .i64 0,.int .i64 0]
def ydh:Fr:=⟨0,0, [0,0,0,0,0,0,0,0]⟩
def zn7 (fs:List Fr):Fr:=fs.getLast?.getD ydh
def Fr.put (f:Fr) (j:Nat) (x:Int):Fr:=if j=0 then { f with code:=x } else if j=1 then { f with pc:=x } else { f with regs:=f.regs.set (j - 2) x }
theorem Fr.z2m(f:Fr)(j:Nat)(x:Int):(f.put j x).cells=f.cells.set j (.int .i64 x):=by
 unfold Fr.put;match j with
 |0=>simp[Fr.cells]
 |1=>simp[Fr.cells]
 |j+2=>simp[Fr.cells,List.map_set]
theorem Fr.z5d(f:Fr)(j:Nat)(x:Int):(f.put j x).regs.length=f.regs.length:=by
 unfold Fr.put;split
 ·rfl
 split<;>simp
def zhx (fs:List Fr) (j:Nat) (x:Int):List Fr:=fs.dropLast ++ [(zn7 fs).put j x]
theorem zod{fs:List Fr}(h:fs.length≠0)(j:Nat)(x:Int):(zhx fs j x).length=fs.length:=by simp[zhx];omega
theorem zx2{fs:List Fr}(h:fs.length≠0):fs=fs.dropLast++[zn7 fs]:=by
 have b:fs≠ []:=fun e=>h (by simp[e]);have:zn7 fs=fs.getLast b:=by simp[zn7,List.getLast?_eq_some_getLast b]
 rw[this];exact(List.dropLast_concat_getLast b).symm
section

variable {T E:TypeId} {B:Nat} {w w':World} {s:Nat} {sl:Value} {most:Int} {fs:List Fr}

theorem Stk.lt(h:Stk T E B w s sl most fs):s<w.heap.size:=(Array.getElem?_eq_some_iff.1 h.head).1
theorem Stk.zem(h:Stk T E B w s sl most fs):∀ k,sl.ownBlock=some k->B<=k/\k<w.heap.size:=h.owns.lt
theorem Stk.cell0(h:Stk T E B w s sl most fs):w.cell? ⟨s,0,.none⟩=some sl:=by simpa using cell_of_row w s 0 _ T (0,0) h.head
theorem Stk.cell1(h:Stk T E B w s sl most fs):w.cell? ⟨s,1,.none⟩=some (.int .i64 most):=by simpa using cell_of_row w s 1 _ T (0,0) h.head
theorem Stk.blocks(h:Stk T E B w s sl most fs)(hb:∀ k,foot s sl k->w'.heap[k]?=w.heap[k]?):Stk T E B w' s sl most fs:=
 ⟨h.lies,by rw[hb s (.inl rfl)];exact h.head,zas h.owns (fun k b=>hb k (.inr b)),h.apart,h.regs⟩
theorem Stk.below(h:Stk T E B w s sl most fs)(hb:Below w.heap.size w w'):Stk T E B w' s sl most fs:=
 h.blocks fun k b=>hb.block k (by rcases b with rfl|b;exact h.lt;exact(h.zem k b).2)
theorem Stk.form(h:Stk T E B w s sl most fs):(sl= .slice none 0 0/\fs= [])\/∃ g cap,sl= .slice (some ⟨g,0,.none⟩) fs.length cap/\fs.length<=cap/\g<w.heap.size/\g≠s/\B<=g/\(fs.length:Int)<=9223372036854775807/\
  ∀ i j,(hi:i<fs.length)->j<10->w.cell? ⟨g,i*10+j,.none⟩=(fs[i].cells)[j]?:=by
 rcases h.owns.2 with⟨l,b⟩|⟨g,cap,f,rfl,l,b,m,n,q,o⟩
 ·exact .inl ⟨l,List.eq_nil_of_length_eq_zero b⟩
 refine .inr ⟨g,cap,rfl,m,(Array.getElem?_eq_some_iff.1 b).1,fun e=>h.apart (by rw[e];rfl),l,by simp only[maxLen]at n;omega,fun i j hi p=>?_⟩;rw[cell_of_row w g _ f E (0,0) b,<- flat_get h.regs i j hi p,<- o,List.getElem?_take,if_pos (by omega)];simp
theorem Only.stk{F:Nat->Prop}(i:Only F w w')(h:Stk T E B w s sl most fs)(f:∀ k,foot s sl k->¬ F k):Stk T E B w' s sl most fs:=
 h.blocks fun k b=>i.block k (by rcases b with rfl|b;exact h.lt;exact(h.zem k b).2) (f k b)
theorem zve{g cap j:Nat}{x:Int}(h:Stk T E B w s (.slice (some ⟨g,0,.none⟩) fs.length cap) most fs)(y:fs.length≠0)(S:j<10):
  Stk T E B (w.setCell ⟨g,(fs.length-1)*10+j,.none⟩ (.int .i64 x)) s (.slice (some ⟨g,0,.none⟩) fs.length cap) most (zhx fs j x):=by
 obtain⟨G,H,I,z,q⟩:=h;have r:s≠g:=fun e=>z (by rw[e];rfl);have e:=zx2 y;have i:zj6 (zhx fs j x):=by
  intro f l;rcases List.mem_append.1 l with l|l
  ·exact q f (List.dropLast_subset _ l)
  rw[List.mem_singleton.1 l,Fr.z5d];have D:zn7 fs ∈ fs.dropLast++[zn7 fs]:=by simp
  rw[<-e]at D;exact q _ D
 have t:zj6 fs.dropLast:=fun f l=>q f (List.dropLast_subset _ l);have C:=znb t;rw[List.length_dropLast]at C;have m:flat (zhx fs j x)=(flat fs).set ((fs.length-1)*10+j) (.int .i64 x):=by
  have J:flat fs=flat fs.dropLast++(zn7 fs).cells:=by rw[<-zja,<- e]
  rw[zhx,zja,Fr.z2m,J,List.set_append_right _ _ (by omega),C];congr 2;omega
 refine⟨G,by rw[heap_setCell_other _ _ _ _ r];exact H,⟨by rw[znb i],.inr ?_⟩,z,i⟩;rcases I.2 with⟨h,_⟩|⟨F,n,p,L,k1,M,U,N,O,R⟩
 ·cases h
 obtain⟨rfl,rfl⟩:g=F/\cap=n:=by injection L with a _ b;injection a with a;injection a with a;exact⟨a,b⟩
 have o:=zod y j x;refine⟨g,cap,_,by rw[o],k1,heap_setCell_same w g _ p E _ M,by omega,N,by simpa using O,?_⟩;rw[o,m,<- R,Array.toList_setIfInBounds,List.take_set]
end

end

section

open Go.RowKit

abbrev SK:=Stk 223 226
theorem zxv(m:Int)(w:World):
  Calls Tryz.prog 142 #[.int .i64 m] w fun e w'=>e= .returned (.pointer (some ⟨w.heap.size,0,.none⟩))/\w'=w.alloc (.cells #[.slice none 0 0,.int .i64 (if m<0\/16<m then 0 else m)] 223):=by
 go_in;go_wp2;all_goals go_ret
 all_goals exact⟨rfl,rfl⟩
theorem zft{B:Nat}{w:World}{s:Nat}{sl:Value}{most:Int}{fs:List Fr}(h:SK B w s sl most fs):
  Calls Tryz.prog 127 #[.pointer (some ⟨s,0,.none⟩)] w fun e w'=>e= .returned (.int .i64 fs.length)/\w'=w:=by
 have c0:=h.cell0;have b:=h.form;rcases b with⟨rfl,rfl⟩|⟨g,cap,rfl,i,m,j,l,n,hc⟩
 ·clear h;go_in;go_wp2;all_goals go_ret
  all_goals exact⟨rfl,rfl⟩
 clear h hc;go_in;go_wp2;all_goals go_ret
 all_goals exact⟨rfl,rfl⟩
def znp (sl:Value) (n:Nat):Option Addr:=match sl with
 | .slice (some a) _ _=> if n=0 then none else some ⟨a.block,(n - 1) * 10,.none⟩
 | _=> none
theorem zx5{B:Nat}{w:World}{s:Nat}{sl:Value}{most:Int}{fs:List Fr}(h:SK B w s sl most fs):
  Calls Tryz.prog 169 #[.pointer (some ⟨s,0,.none⟩)] w fun e w'=>e= .returned (.pointer (znp sl fs.length))/\∃ n,w'=w.drewN n:=by
 have c0:=h.cell0;have i:=h.form;rcases i with⟨rfl,rfl⟩|⟨g,cap,rfl,j,q,m,p,r,hc⟩
 ·go_in;go_wp2_with (go_at_call 127;refine(zft h).mono ?_;rintro e l ⟨rfl,rfl⟩);all_goals go_ret
  all_goals exact⟨rfl,0,rfl⟩
 by_cases b:fs.length=0
 ·have o:((fs.length:Int)==0)=true:=by simp[b]
  go_in;go_wp2_with (go_at_call 127;refine(zft h).mono ?_;rintro e l ⟨rfl,rfl⟩);all_goals go_ret
  all_goals exact⟨by rw[znp,if_pos b];rfl,0,rfl⟩
 have o:((fs.length:Int)==0)=false:=by simpa using b
 have t:(1:Int)<=(fs.length:Int):=by omega
 go_in;go_wp2_with (go_at_call 127;refine(zft h).mono ?_;rintro e l ⟨rfl,rfl⟩);go_quiet (fail);go_wp2;all_goals go_ret
 exact⟨by rw[znp,if_neg b];rfl,nq,rfl⟩
theorem zy6{B:Nat}{w:World}{s:Nat}{sl:Value}{most:Int}{fs:List Fr}(h:SK B w s sl most fs)(y:fs.length≠0):
  ∃ g cap code pc r0 r1 l m n o p q,sl= .slice (some ⟨g,0,.none⟩) fs.length cap/\znp sl fs.length=some ⟨g,(fs.length-1)*10,.none⟩/\g<w.heap.size/\g≠s/\B<=g/\zn7 fs=⟨code,pc, [r0,r1,l,m,n,o,p,q]⟩/\
   w.cell? ⟨g,(fs.length-1)*10,.none⟩=some (.int .i64 code)/\w.cell? ⟨g,(fs.length-1)*10+1,.none⟩=some (.int .i64 pc)/\
   w.cell? ⟨g,(fs.length-1)*10+2,.none⟩=some (.int .i64 r0)/\w.cell? ⟨g,(fs.length-1)*10+3,.none⟩=some (.int .i64 r1)/\
   w.cell? ⟨g,(fs.length-1)*10+4,.none⟩=some (.int .i64 l)/\w.cell? ⟨g,(fs.length-1)*10+5,.none⟩=some (.int .i64 m)/\
   w.cell? ⟨g,(fs.length-1)*10+6,.none⟩=some (.int .i64 n)/\w.cell? ⟨g,(fs.length-1)*10+7,.none⟩=some (.int .i64 o)/\
   w.cell? ⟨g,(fs.length-1)*10+8,.none⟩=some (.int .i64 p)/\w.cell? ⟨g,(fs.length-1)*10+9,.none⟩=some (.int .i64 q)/\fs.length<=cap/\(fs.length:Int)<=9223372036854775807:=by
 rcases h.form with⟨rfl,rfl⟩|⟨g,cap,rfl,i,F,r,C,G,hc⟩
 ·simp at y
 have t:fs.length-1<fs.length:=by omega
 have z:=h.regs _ (List.getElem_mem t);have H:zn7 fs=fs[fs.length-1]:=by simp[zn7,List.getLast?_eq_getElem?,t]
 rw[H];generalize D:fs[fs.length-1]=f at z;have b:=fun j=>hc (fs.length-1) j t;rw[D]at b;obtain⟨code,pc,regs⟩:=f;match regs,z with
 | [r0,r1,l,m,n,o,p,q],_=>exact⟨g,cap,code,pc,r0,r1,l,m,n,o,p,q,rfl,by rw[znp,if_neg y],F,r,C,rfl,b 0 (by omega),b 1 (by omega),b 2 (by omega),b 3 (by omega),b 4 (by omega),b 5 (by omega),b 6 (by omega),b 7 (by omega),b 8 (by omega),b 9 (by omega),i,G⟩
theorem zhj{w:World}{b:Nat}{cs:Array Value}{t:TypeId}(h:w.heap[b]?=some (.cells cs t (0,0)))(i:Nat):w.frozen? ⟨b,i,.none⟩=false:=by
 simp[World.frozen?,h]
theorem zqq{B:Nat}{w:World}{s:Nat}{g cap n:Nat}{most:Int}{fs:List Fr}(h:SK B w s (.slice (some ⟨g,0,.none⟩) n cap) most fs)(_h0:fs.length≠0)(i:Nat):w.frozen? ⟨g,i,.none⟩=false:=by
 rcases h.owns.2 with⟨m,_⟩|⟨l,f,j,o,k1,p,_⟩
 ·cases m
 obtain rfl:g=l:=by injection o with a _ b;injection a with a;injection a with a
 exact zhj p i
theorem zz4{B:Nat}{w:World}{s:Nat}{sl:Value}{most pc':Int}{fs:List Fr}(h:SK B w s sl most fs)(i:fs.length≠0):
  Calls Tryz.prog 145 #[.pointer (some ⟨s,0,.none⟩),.int .i64 pc'] w fun e w'=>e= .returned (.bool true)/\Only (foot s sl) w w'/\SK B w' s sl most (zhx fs 1 pc'):=by
 obtain⟨g,cap,code,pc,r0,r1,t,y,z,C,D,F,rfl,j,p,m,o,r,_,c1,_,_,_,_,_,_,_,_,l,q⟩:=zy6 h i;have b:=zx5 h;rw[j]at b;have n:=zqq h i;clear j;go_in;go_wp2_with (go_at_call 169;refine b.mono ?_;rintro e G ⟨rfl,nq,rfl⟩);go_ret;exact⟨rfl,Only.setCell (Only.drewN (Only.refl _ _) nq) (.inl (.inr rfl)) _,(zve h i (by decide)).blocks fun k _=>rfl⟩
theorem zq6{B:Nat}{w:World}{s:Nat}{sl:Value}{most:Int}{fs:List Fr}(h:SK B w s sl most fs):
  Calls Tryz.prog 148 #[.pointer (some ⟨s,0,.none⟩)] w fun e w'=>e= .returned (.tuple #[])/\Only (foot s sl) w w'/\SK B w' s (.slice none 0 0) most []:=by
 have i:=h.cell0;have j:=zhj h.head;go_in;go_wp2;go_end0;refine⟨rfl,Only.setCell (Only.refl _ _) (.inl (.inl rfl)) _,h.lies,?_,World.ownsRow_nil _ _ _ _,by simp[Value.ownBlock],fun f b=>by cases b⟩;rw[heap_setCell_same w s 0 _ _ _ h.head];rfl
end

end Go.Proofs.YtkbddndcegpllaaGreat
