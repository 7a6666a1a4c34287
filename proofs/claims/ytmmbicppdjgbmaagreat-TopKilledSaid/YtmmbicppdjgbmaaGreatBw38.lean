/- Lemmas for the claim. -/
import Derived.Test.YtmmbicppdjgbmaaGreatBw36

import Derived.Test.YtmmbicppdjgbmaaGreatBw37

set_option linter.all false
set_option maxHeartbeats 4000000
set_option maxRecDepth 100000
namespace Go.Proofs.YtmmbicppdjgbmaaGreat

section

open Go.RowKit

attribute [local go_sem ↓] Go.wp_at_zero Go.wp_at_succ

theorem yfd:(Tryz.prog.info? 80).map (fun i=>(i.zero,i.size,i.bytes))=some (some (.pointer none),1,8):=by kernel_rfl
theorem z8e(n:Nat)(l:n<=100):∀ u:World,(Instr.makeSlice 76 (.int .i64 (n:Int)) (.int .i64 (n:Int))).run Tryz.prog u= .ok (.slice (some ⟨u.heap.size,0,.none⟩) n n) (u.alloc (.cells (madeCells #[.pointer none] n) 80)):=fun u=>by
 obtain⟨j,hi,b,f,i⟩:=info_parts yfd
 have h:=run_make (P:=Tryz.prog) u 76 80 j (.pointer none) Tryz.underlying76 hi b .i64 .i64 (n:Int) (n:Int) (by omega) (Int.le_refl _) (by rw[i];omega) (by omega)
 rw[Int.toNat_natCast]at h
 simpa[f,Value.cells] using h
theorem z6e(n:Nat):madeCells #[.pointer none] n=(List.replicate n (.pointer none)).toArray:=by
 apply Array.toList_inj.1;rw[toList_madeCells_one]
theorem z0c{W Z:World}{s:Sh}{p b lb:Nat}(H:mayB s.p s.c s.m=true)(z:W.heap.size<=p/\W.heap.size<=b/\W.heap.size<=lb)(o:lb≠p/\lb≠b)(y:oA Z p b (oF (EB s.p s.c s.m).toNat)) (E:aA Z lb (madeCells #[.pointer none] s.c.toNat) 80) (C:Below W.heap.size W Z):
  Below W.heap.size W (Z.alloc (.cells #[s.p,s.c,s.m,some p,.slice (some ⟨lb,0,.none⟩) s.c.toNat s.c.toNat,.slice none 0 0,.slice none 0 0] 79))/\
  ∃ x,WdP W.heap.size (fun i=>W.heap.size<=i/\i<(Z.alloc (.cells #[s.p,s.c,s.m,some p,.slice (some ⟨lb,0,.none⟩) s.c.toNat s.c.toNat,.slice none 0 0,.slice none 0 0] 79)).heap.size)
   (Z.alloc (.cells #[s.p,s.c,s.m,some p,.slice (some ⟨lb,0,.none⟩) s.c.toNat s.c.toNat,.slice none 0 0,.slice none 0 0] 79)) Z.heap.size s (uB s) x:=by
 have hb:=LA.1 H;have hs:=C.size;have j:=(Below.refl Z.heap.size Z).alloc lr (.cells #[s.p,s.c,s.m,some p,.slice (some ⟨lb,0,.none⟩) s.c.toNat s.c.toNat,.slice none 0 0,.slice none 0 0] 79);have r:aA (Z.alloc (.cells #[s.p,s.c,s.m,some p,.slice (some ⟨lb,0,.none⟩) s.c.toNat s.c.toNat,.slice none 0 0,.slice none 0 0] 79)) Z.heap.size #[s.p,s.c,s.m,some p,.slice (some ⟨lb,0,.none⟩) s.c.toNat s.c.toNat,.slice none 0 0,.slice none 0 0] 79:=jA _ _;have J:=y.ltp;have F:=y.ltb;have G:=E.lt;have B:=y.ne;have f:(uB s).l.length=s.c.toNat:=by simp[uB]
 have q:∀ c,(uB s).l.getD c none=none:=fun c=>by unfold uB;rw[List.getD_eq_getElem?_getD,List.getElem?_replicate];split<;>rfl
 have I:(Z.alloc (.cells #[s.p,s.c,s.m,some p,.slice (some ⟨lb,0,.none⟩) s.c.toNat s.c.toNat,.slice none 0 0,.slice none 0 0] 79)).heap.size=Z.heap.size+1:=by simp
 refine⟨C.alloc (by omega) _,⟨p,b,lb,.slice none 0 0,.slice none 0 0,List.replicate s.c.toNat (.pointer none),fun _=>0,fun i=>if i=Z.heap.size then 0 else if i=p then 1 else if i=b then 2 else 3,fun _ _=>False⟩,
  ?_,y.below j,?_,by simp[f],fun c hc=>?_,fun c k D=>?_,⟨by simp[uB],.inl ⟨rfl,rfl⟩⟩,⟨by simp[uB],.inl ⟨rfl,rfl⟩⟩,fun i hi=>hi,⟨⟨hs,by omega⟩,jP rfl⟩,⟨⟨z.1,by dsimp only;omega⟩,?_⟩,⟨⟨z.2.1,by dsimp only;omega⟩,?_⟩,⟨⟨z.2.2,by dsimp only;omega⟩,?_⟩,fun i e=>(by cases e),fun i e=>(by cases e),fun c i e=>e.elim⟩
 ·rw[f];exact r
 ·have h1:=E.below j;rw[z6e]at h1;exact h1
 ·rw[q];show (List.replicate s.c.toNat (Value.pointer none))[c]?=some (.pointer none);rw[List.getElem?_replicate,jP (by omega)]
 ·rw[q]at D;cases D
 ·show (if p=Z.heap.size then 0 else if p=p then 1 else if p=b then 2 else 3)=1;rw[jN (by omega),jP rfl]
 ·show (if b=Z.heap.size then 0 else if b=p then 1 else if b=b then 2 else 3)=2;rw[jN (by omega),jN (fun e=>B e.symm),jP rfl]
 show (if lb=Z.heap.size then 0 else if lb=p then 1 else if lb=b then 2 else 3)=3;rw[jN (by omega),jN o.1,jN o.2]
theorem zzx(s:Sh)(W:World)(S:mayB s.p s.c s.m=true):
  Calls Tryz.prog 26 #[.agg #[s.p,s.c,s.m]] W fun e w'=>Below W.heap.size W w'/\∃ g x,e= .returned (.tuple #[.pointer (some ⟨g,0,.none⟩),.int .i64 0])/\WdP W.heap.size (fun i=>W.heap.size<=i/\i<w'.heap.size) w' g s (uB s) x:=by
 have C:=fun Y=>pC s.p s.c s.m Y;rw[S]at C;have hb:=LA.1 S;have hT:=(oV S).2;have j:=fun Z p b lb=>z0c (W:=W) (Z:=Z) (p:=p) (b:=b) (lb:=lb) S;obtain⟨sp,sc,l⟩:=s;dsimp only at *;obtain⟨n,rfl⟩:∃ n:Nat,sc=(n:Int):=⟨sc.toNat,by omega⟩;rw[Int.toNat_natCast]at j;have D:=fun Y=>PV sp (n:Int) l Y;obtain⟨N,hN,M⟩:∃ N:Nat,EB sp (n:Int) l=(N:Int)/\N<=2000:=⟨(EB sp (n:Int) l).toNat,by omega,by omega⟩;rw[hN]at D j;rw[Int.toNat_natCast]at j;have G:=fun Y=>z7s N M Y;have b6:=z8e n (by omega);replace C:=hd' C;replace D:=hd' D;replace G:=hd' G;replace j:=hd' j;have b7:(n:Int)<=12:=by omega
 have U:=jA W (.cells #[sp,.int .i64 (n:Int),l] 23);have t0:aA (W.alloc (.cells #[sp,.int .i64 (n:Int),l] 23)) W.heap.size #[sp,.int .i64 (n:Int),l] 23:=U;have t1:=t0.alloc (.cells #[sp,.int .i64 (n:Int),l] 23);have z:Below W.heap.size W ((W.alloc (.cells #[sp,.int .i64 (n:Int),l] 23)).alloc (.cells #[sp,.int .i64 (n:Int),l] 23)):=by go_grown
 clear S hb hT hN M U t0;go_in;go_upto_region 3 with(first|(go_at_call 48;refine(C _).mono ?_;rintro r w1 ⟨rfl,b1⟩;obtain rfl:=b1.symm));generalize (W.alloc (.cells #[sp,.int .i64 (n:Int),l] 23)).alloc (.cells #[sp,.int .i64 (n:Int),l] 23)=X at *;have b3:=z.size;obtain⟨H,U,L⟩:=hidv W.heap.size;rw[<-L]at t1 ⊢;clear L;have lH:=t1.lt;have y:∀ Y,aA Y H #[sp,.int .i64 (n:Int),l] 23->Y.cell? ⟨H,0,.none⟩=some (.int .i64 sp)/\Y.cell? ⟨H,1,.none⟩=some (.int .i64 (n:Int))/\Y.cell? ⟨H,2,.none⟩=some (.int .i64 l):=fun Y h=>⟨h.cell 0,h.cell 1,h.cell 2⟩;replace y:=hd' y
 go_region_held3 (fun Y=>Y.cell? ⟨H,0,.none⟩=some (.int .i64 sp)/\Y.cell? ⟨H,1,.none⟩=some (.int .i64 (n:Int))/\Y.cell? ⟨H,2,.none⟩=some (.int .i64 l))
  (first|exact y _ t1.drew|exact y _ (t1.drew.alloc _)|exact y _ ((t5.alloc _).alloc _)|exact y _ (t5.alloc _)|exact y _ t5|exact y _ (t4.alloc _)|exact y _ t4)
  (first|(go_at_call 57;refine(D _).mono ?_;rintro r I ⟨rfl,E⟩;have J:Below X.heap.size X I:=(by first|exact zA br.drew E|exact zA (br.drew.alloc lr _) E);have t4:=t1.below J;try (have R:aA I X.heap.size (madeCells #[.pointer none] n) 80:=aA.below (jA X.drew _) E))|(go_at_call 56;refine(G _).mono ?_;rintro r o ⟨p,b,rfl,q,V,O,B⟩;have T:Below X.heap.size X o:=(by first|exact zA J B|exact zA (J.alloc J.size _) B);have t5:=t1.below T;(try (have F:aA o X.heap.size (madeCells #[.pointer none] n) 80:=aA.below R B));(try (have F:aA o I.heap.size (madeCells #[.pointer none] n) 80:=aA.below (jA I _) B))))
 ·have b0:=J.size;have b5:=q.ltp;have b4:=q.ltb;have ha:=(Below.refl o.heap.size o).alloc lr (.cells (madeCells #[.pointer none] n) 80);obtain⟨f1,x,f2⟩:=j (o.alloc (.cells (madeCells #[.pointer none] n) 80)) p b o.heap.size ⟨by omega,by omega,by omega⟩ ⟨by omega,by omega⟩ (q.below ha) (jA o _) (zA (zA z T) ha);have hz:(o.alloc (.cells (madeCells #[.pointer none] n) 80)).heap.size=o.heap.size+1:=by simp
  rw[hz]at f2;go_wp2_with fail;go_returns;exact⟨f1,_,x,rfl,f2⟩
 ·have b0:=J.size;have hz:(I.alloc (.cells (madeCells #[.pointer none] n) 80)).heap.size=I.heap.size+1:=by simp
  rw[hz]at V O;obtain⟨f1,x,f2⟩:=j o p b I.heap.size ⟨by omega,by omega,by omega⟩ ⟨by omega,by omega⟩ q F (zA z T);go_wp2_with fail;go_returns;exact⟨f1,_,x,rfl,f2⟩
 have b2:=R.lt;obtain⟨f1,x,f2⟩:=j o p b X.heap.size ⟨by omega,by omega,by omega⟩ ⟨by omega,by omega⟩ q F (zA z T);go_wp2_with fail;go_returns;exact⟨f1,_,x,rfl,f2⟩
theorem HZ:(Tryz.prog.info? 326).map (fun i=>(i.zero,i.size,i.bytes))=some (some (.pointer none),1,8):=by kernel_rfl
theorem z0w(n:Nat)(l:n<=100):∀ u:World,(Instr.makeSlice 118 (.int .i64 (n:Int)) (.int .i64 (n:Int))).run Tryz.prog u= .ok (.slice (some ⟨u.heap.size,0,.none⟩) n n) (u.alloc (.cells (madeCells #[.pointer none] n) 326)):=fun u=>by
 obtain⟨j,hi,b,f,i⟩:=info_parts HZ
 have h:=run_make (P:=Tryz.prog) u 118 326 j (.pointer none) Tryz.underlying118 hi b .i64 .i64 (n:Int) (n:Int) (by omega) (Int.le_refl _) (by rw[i];omega) (by omega)
 rw[Int.toNat_natCast]at h
 simpa[f,Value.cells] using h
theorem z0l(n:Nat)(i:n<=2000)(w:World):
  Calls Tryz.prog 58 #[.int .i64 (n:Int)] w fun e w'=>(∃ p,e= .returned (.pointer (some ⟨p,0,.none⟩)))/\Below w.heap.size w w':=by
 have b:=KW n (by omega);have h1:decide ((n:Int)<0)=false:=jF (by omega);have h2:decide ((2000:Int)<(n:Int))=false:=jF (by omega);go_in;go_wp2_with fail;go_returns;exact⟨⟨_,rfl⟩,by go_grown⟩
theorem BY(s:Sh)(W:World)(E:mayB s.p s.c s.m=true):
  Calls Tryz.prog 27 #[.agg #[s.p,s.c,s.m]] W fun e w'=>Below W.heap.size W w'/\∃ g,e= .returned (.tuple #[.pointer (some ⟨g,0,.none⟩),.int .i64 0]):=by
 have j:=fun Y=>fI s.p s.c s.m Y;rw[E]at j;have hb:=LA.1 E;have T:=(oV E).2;have l:=fun Y=>zv0 s Y;obtain⟨sp,O,b⟩:=s;dsimp only at *;obtain⟨n,rfl⟩:∃ n:Nat,O=(n:Int):=⟨O.toNat,by omega⟩;obtain⟨N,M,y⟩:∃ N:Nat,EB sp (n:Int) b=(N:Int)/\N<=2000:=⟨(EB sp (n:Int) b).toNat,by omega,by omega⟩;rw[M]at l;have o:=fun Y=>z0l N y Y;have V:=z0w n (by omega);replace j:=hd' j;replace l:=hd' l;replace o:=hd' o;have Z:(n:Int)<=12:=by omega
 have G:=jA W (.cells #[sp,.int .i64 (n:Int),b] 23);have t0:aA (W.alloc (.cells #[sp,.int .i64 (n:Int),b] 23)) W.heap.size #[sp,.int .i64 (n:Int),b] 23:=G;have t1:=t0.alloc (.cells #[sp,.int .i64 (n:Int),b] 23);have z:Below W.heap.size W ((W.alloc (.cells #[sp,.int .i64 (n:Int),b] 23)).alloc (.cells #[sp,.int .i64 (n:Int),b] 23)):=by go_grown
 clear E hb T M y G t0;go_in;go_upto_region 3 with(first|(go_at_call 42;refine(j _).mono ?_;rintro r w1 ⟨rfl,I⟩;obtain rfl:=I.symm));generalize (W.alloc (.cells #[sp,.int .i64 (n:Int),b] 23)).alloc (.cells #[sp,.int .i64 (n:Int),b] 23)=X at *;obtain⟨H,G,q⟩:=hidv W.heap.size;rw[<-q]at t1 ⊢;clear q;have lH:=t1.lt;have i:∀ Y,aA Y H #[sp,.int .i64 (n:Int),b] 23->Y.cell? ⟨H,0,.none⟩=some (.int .i64 sp)/\Y.cell? ⟨H,1,.none⟩=some (.int .i64 (n:Int))/\Y.cell? ⟨H,2,.none⟩=some (.int .i64 b):=fun Y h=>⟨h.cell 0,h.cell 1,h.cell 2⟩;replace i:=hd' i
 go_region_held3 (fun Y=>Y.cell? ⟨H,0,.none⟩=some (.int .i64 sp)/\Y.cell? ⟨H,1,.none⟩=some (.int .i64 (n:Int))/\Y.cell? ⟨H,2,.none⟩=some (.int .i64 b))
  (first|exact i _ t1.drew|exact i _ (t1.drew.alloc _)|exact i _ ((J.alloc _).alloc _)|exact i _ (J.alloc _)|exact i _ J|exact i _ (R.alloc _)|exact i _ R)
  (first|(go_at_call 59;refine(l _).mono ?_;rintro r w4 ⟨rfl,B⟩;have D:Below X.heap.size X w4:=(by first|exact zA br.drew B|exact zA (br.drew.alloc lr _) B);have R:=t1.below D)|(go_at_call 58;refine(o _).mono ?_;rintro r w5 ⟨⟨p,rfl⟩,C⟩;have F:Below X.heap.size X w5:=(by first|exact zA D C|exact zA (D.alloc D.size _) C);have J:=t1.below F))
 all_goals have U:=z.size;have S:=F.size;have L:=zA z F;go_wp2_with fail;go_returns;exact⟨by first|exact(L.alloc (by omega) _)|exact((L.alloc (by omega) _).alloc (by simp;omega) _),_,rfl⟩
theorem DP(s:Sh)(W:World)(B:mayB s.p s.c s.m=true):
  Calls Tryz.prog 8 #[.agg #[s.p,s.c,s.m]] W fun e w'=>Below W.heap.size W w'/\∃ g v x,e= .returned (.tuple #[.pointer (some ⟨g,0,.none⟩),.pointer (some ⟨v,0,.none⟩)])/\WdP W.heap.size (fun i=>W.heap.size<=i/\i<w'.heap.size) w' g s (uB s) x:=by
 have q:=fun Y=>zzx s Y B;have y:=fun Y=>BY s Y B;have D:∀ (p:Nat) (W:World),(binOp .eql 27 (.pointer (some ⟨p,0,.none⟩)) (.pointer none)).run Tryz.prog W= .ok (.bool false) W:=fun p W=>by kernel_rfl
 have z:=(Below.refl W.heap.size W).alloc lr (.cells #[s.p,s.c,s.m] 23);have t0:aA (W.alloc (.cells #[s.p,s.c,s.m] 23)) W.heap.size #[s.p,s.c,s.m] 23:=jA _ _;replace q:=hd' q;replace y:=hd' y;clear B;go_in;go_upto_region 1 with fail;have o:(W.alloc (.cells #[s.p,s.c,s.m] 23)).heap.size=W.heap.size+1:=by simp
 generalize W.alloc (.cells #[s.p,s.c,s.m] 23)=X at *;obtain⟨H,G,b⟩:=hidv W.heap.size;rw[<-b]at t0 o ⊢;have E:=t0.cell;replace o:=hd' o;replace b:=hd' b;go_wp2_with (first|(go_at_call 26;refine(q _).mono ?_;rintro r I ⟨j,g,x,rfl,C⟩;have t1:=t0.below j;have F:=t1.cell)|(go_at_call 27;refine(y _).mono ?_;rintro r J ⟨l,v,rfl⟩));go_returns;have h1:=j.size;have h2:=l.size;have h3:=o.out;have h4:=b.out;exact⟨zA (zA z j) l,g,v,x,rfl,((C.below l).lower (by omega)).weak (fun i hi=>⟨by omega,by omega⟩) (fun i hi=>hi)⟩
end

section

open Go.RowKit

structure KA (W0:World) (g:Nat) (s:Sh) (Kp:Nat->Obj->Prop) (d:Wd) (W:World):Prop where
 wd:∃ F x,WdP W0.heap.size F W g s d x/\∀ k v,Kp k v->W.heap[k]?=some v/\¬ F k
 ab:Below W0.heap.size W0 W
def kp1 (k:Nat) (v:Obj):Nat->Obj->Prop:=fun i o=> i=k/\o=v
def kpM (Kp:Nat->Obj->Prop) (k:Nat) (v:Obj):Nat->Obj->Prop:=fun i o=> Kp i o\/(i=k/\o=v)
section

variable {W0 W W':World} {g:Nat} {s:Sh} {Kp Kq:Nat->Obj->Prop} {d d':Wd} {n:Nat}

theorem KA.keep(h:KA W0 g s Kp d W){k:Nat}{v:Obj}(b:Kp k v):W.heap[k]?=some v:=by
 obtain⟨⟨F,x,_,h2⟩,_⟩:=h;exact(h2 k v b).1
theorem KA.imp(h:KA W0 g s Kp d W)(f:∀ k v,Kq k v->Kp k v):KA W0 g s Kq d W:=by
 obtain⟨⟨F,x,h1,h2⟩,h3⟩:=h;exact⟨⟨F,x,h1,fun k v b=>h2 k v (f k v b)⟩,h3⟩
theorem KA.below(h:KA W0 g s Kp d W)(hb:Below W.heap.size W W'):KA W0 g s Kp d W':=by
 obtain⟨⟨F,x,h1,h2⟩,h3⟩:=h;exact⟨⟨F,x,h1.below hb,fun k v b=>⟨(hb.block k (Array.getElem?_eq_some_iff.1 (h2 k v b).1).1).trans (h2 k v b).1,(h2 k v b).2⟩⟩,h3.trans (hb.mono h3.size)⟩
theorem KA.add(h:KA W0 g s Kp d W)(hb:Below W.heap.size W W'){k:Nat}{v:Obj}(p:W.heap.size<=k)(l:W'.heap[k]?=some v):KA W0 g s (kpM Kp k v) d W':=by
 obtain⟨⟨F,x,h1,h2⟩,h3⟩:=h.below hb;obtain⟨⟨j,m,b,f⟩,_⟩:=h;refine⟨⟨j,m,b.below hb,fun i o hi=>?_⟩,h3⟩;rcases hi with hi|⟨rfl,rfl⟩
 ·exact⟨(h2 i o hi).1,(f i o hi).2⟩
 exact⟨l,fun e=>by have:=(b.lt i e).2;omega⟩
theorem KA.to{F:Nat->Prop}{x:Wx}(h3:Below W0.heap.size W0 W)(h1:WdP W0.heap.size F W g s d x)(h2:∀ k v,Kp k v->W.heap[k]?=some v/\¬ F k)(h:WdTo W0.heap.size F W W' g s d'):KA W0 g s Kp d' W':=by
 obtain⟨⟨q,f⟩,m,r⟩:=h;refine⟨⟨_,q,f,fun k v p=>?_⟩,h3.trans (m.below h3.size (fun j o=>(h1.lt j o).1))⟩;obtain⟨i,l⟩:=h2 k v p;have b:=(jE i);exact⟨(m.block k b l).trans i,gH l b⟩
theorem QN{Y:World}(q:mayB s.p s.c s.m=true)(i:Below W0.heap.size W0 Y)(b:∀ k v,Kp k v->Y.heap[k]?=some v):
  Calls Tryz.prog 8 #[.agg #[s.p,s.c,s.m]] Y fun e w'=>∃ g v,e= .returned (.tuple #[.pointer (some ⟨g,0,.none⟩),.pointer (some ⟨v,0,.none⟩)])/\KA W0 g s Kp (uB s) w'/\Below Y.heap.size Y w':=
 (DP s Y q).mono fun e w' ⟨hb,g,v,x,l,r⟩=>⟨g,v,l,⟨⟨_,x,r.lower i.size,fun k o j=>⟨(hb.block k (jE (b k o j))).trans (b k o j),fun e=>by have:=(jE (b k o j));omega⟩⟩,i.trans (hb.mono i.size)⟩,hb⟩
theorem bG(h:KA W0 g s Kp d W)(p:wdOk s d n)(o:n<=10000000)(l j m b cn:Int)(i:Nat):
  Calls Tryz.prog 9 #[some g,.agg #[l,j,m,b,cn,.float .f64 i]] W fun e w'=>e= .returned (.int .i64 (d.act s ⟨l,j,m,b,cn,i⟩).2)/\KA W0 g s Kp (d.act s ⟨l,j,m,b,cn,i⟩).1 w':=by
 obtain⟨⟨F,x,h1,h2⟩,h3⟩:=h;exact(qI h1 h3.size p o ⟨l,j,m,b,cn,i⟩).mono fun e w' k=>⟨k.1,KA.to h3 h1 h2 k.2⟩
theorem kK(h:KA W0 g s Kp d W)(b:d.tr.length<=100000000):
  Calls Tryz.prog 12 #[some g] W fun e w'=>∃ v',e= .returned v'/\Below W.heap.size W w'/\RdE w' v' d.tr:=by
 obtain⟨⟨F,x,h1,h2⟩,h3⟩:=h;exact(aP h1 b).mono fun e w' ⟨v,k1,i,j⟩=>⟨v,k1,i,RdS.AC j⟩
theorem KA.other{G:Nat->Prop}(h:KA W0 g s Kp d W)(j:Only G W W')(o:∀ k,G k->W0.heap.size<=k/\∃ v,Kp k v)(q:∀ k v,Kq k v->(Kp k v/\¬ G k)\/((G k\/W.heap.size<=k)/\W'.heap[k]?=some v)):KA W0 g s Kq d W':=by
 obtain⟨⟨F,x,h1,h2⟩,h3⟩:=h;have hd:∀ k,F k->¬ G k:=fun k f b=>by obtain⟨_,v,m⟩:=o k b;exact(h2 k v m).2 f
 refine⟨⟨F,x,h1.only j hd,fun k v i=>?_⟩,h3.trans (j.below h3.size fun k i=>(o k i).1)⟩;rcases q k v i with⟨l,p⟩|⟨b,m⟩
 ·exact⟨(j.block k (Array.getElem?_eq_some_iff.1 (h2 k v l).1).1 p).trans (h2 k v l).1,(h2 k v l).2⟩
 refine⟨m,fun f=>?_⟩;rcases b with b|b
 ·exact hd k f b
 have:=(h1.lt k f).2;omega
end

end

section

open Go.RowKit

attribute [local go_sem ↓] Go.wp_at_zero Go.wp_at_succ

theorem Mdl.base{T E:TypeId}{B b:Nat}{w:World}{s:Nat}{W:Int}(h:Mdl T E B w s (.slice none 0 0) W [])(f:b<=B):Mdl T E b w s (.slice none 0 0) W []:=
 ⟨Nat.le_trans f h.lies,h.head,⟨rfl,.inl ⟨rfl,rfl⟩⟩,h.apart,h.ok,h.small⟩
theorem yq0:(Tryz.prog.info? 146).map (fun i=>(i.zero,i.size,i.bytes))=some (some (.agg #[.bool false,.bool false,.bool false,.bool false,.bool false,.bool false,.int .i64 0,.int .i64 0,.int .i64 0,.int .i64 0]),10,40):=by kernel_rfl
theorem ypo(n:Nat):madeCells #[.bool false,.bool false,.bool false,.bool false,.bool false,.bool false,.int .i64 0,.int .i64 0,.int .i64 0,.int .i64 0] (n*10)=(rpsC (List.replicate n Pt.zero)).toArray:=by
 apply Array.toList_inj.1;apply List.ext_getElem?;intro x;rcases Nat.lt_or_ge x (n*10) with b|b
 ·obtain⟨i,j,f,rfl⟩:∃ i j:Nat,j<10/\x=i*10+j:=⟨x/10,x%10,by omega,by omega⟩;have h1:=PR (List.replicate n Pt.zero) i j (by rw[List.length_replicate];omega) f;rw[List.getElem_replicate]at h1;show _=(rpsC (List.replicate n Pt.zero))[i*10+j]?;rw[h1];have h2:(i*10+j)%10=j:=by omega
  simp only[madeCells,Array.toList_map,List.getElem?_map,Array.toList_range,List.getElem?_range b,Option.map_some];show some (_[(i*10+j)%10]!)=_;rw[h2];have:j=0\/j=1\/j=2\/j=3\/j=4\/j=5\/j=6\/j=7\/j=8\/j=9:=by omega
  rcases this with rfl|rfl|rfl|rfl|rfl|rfl|rfl|rfl|rfl|rfl<;>rfl
 have h1:(rpsC (List.replicate n Pt.zero)).length=n*10:=by rw[UR,List.length_replicate]
 rw[List.getElem?_eq_none (by rw[Array.length_toList,size_madeCells];exact b),List.getElem?_eq_none (by simp only[];omega)]
theorem yn8(n:Nat)(l:n<=12):∀ u:World,(Instr.makeSlice 90 (.int .i64 (n:Int)) (.int .i64 (n:Int))).run Tryz.prog u= .ok (.slice (some ⟨u.heap.size,0,.none⟩) n n) (u.alloc (.cells (rpsC (List.replicate n Pt.zero)).toArray 146)):=fun u=>by
 obtain⟨j,hi,b,f,i⟩:=info_parts yq0
 have h:=run_make (P:=Tryz.prog) u 90 146 j _ Tryz.underlying90 hi b .i64 .i64 (n:Int) (n:Int) (by omega) (Int.le_refl _) (by rw[i];omega) (by omega)
 rw[Int.toNat_natCast]at h
 rw[<-ypo n]
 simpa[f,Value.cells] using h
def FS (w w':World) (r:Ending) (J:Jd):Prop:=∃ jb s pb,r= .returned (.pointer (some ⟨jb,0,.none⟩))/\Below w.heap.size w w'/\JrA w.heap.size w' jb s pb (.slice none 0 0) J
theorem yop{p c m:Int}(hm:mayB p c m=true)(w:World):
  Calls Tryz.prog 35 #[.agg #[p,c,m]] w fun r w'=>FS w w' r (newJ p c m):=by
 have F:=hd' (fun n X=>yjp n X);have j:=fun X=>fI p c m X;have b1:=(Below.refl w.heap.size w).alloc lr (.cells #[p,c,m] 23);have t1:=jA w (.cells #[p,c,m] 23);obtain⟨JR,J⟩:∃ JR,Hid (JR=newJ p c m):=⟨_,hd' rfl⟩;rw[<-J];have hJ:JR=⟨p*64, [],List.replicate c.toNat Pt.zero,0, -1,0⟩:=by rw[J];unfold newJ;rw[jP hm]
 have b6:(1<=p/\p<=64)/\(1<=c/\c<=12):=by have:=LA.1 hm;omega
 obtain⟨hp,hc⟩:=b6;obtain⟨H,hH,T⟩:=hidv w.heap.size;go_in;go_upto_region 1 with fail;generalize w.alloc (.cells #[p,c,m] 23)=W at *;rw[<-T]at t1 ⊢;clear T;have lH:H<W.heap.size:=(jE t1);go_upto_region 2 with(go_at_call 72;refine(F _ _).mono ?_;rintro r w1 ⟨rfl,y,M⟩);have bh:=y.size;have S:=y.alloc y.size (.cells #[some W.heap.size,.slice none 0 0,.int .i64 0,.int .i64 (-1),.int .i64 0] 92);have b5:RM W.heap.size (w1.alloc (.cells #[some W.heap.size,.slice none 0 0,.int .i64 0,.int .i64 (-1),.int .i64 0] 92)) W.heap.size (.slice none 0 0) (capW 0) []:=M.below (br.alloc lr _);have tj:=jA w1 (.cells #[some W.heap.size,.slice none 0 0,.int .i64 0,.int .i64 (-1),.int .i64 0] 92);obtain⟨jb,bc,E⟩:=hidv w1.heap.size;have b9:W.heap.size<w1.heap.size:=M.lt;rw[<-E]at tj b9 ⊢;generalize w1.alloc (.cells #[some W.heap.size,.slice none 0 0,.int .i64 0,.int .i64 (-1),.int .i64 0] 92)=V at *;have bk:w.heap.size<=H:=by have:=hH.out;omega
 have bm:w.heap.size<=W.heap.size:=b1.size;clear E M y;have lV:jb<V.heap.size:=(jE tj);have d0:V.cell? ⟨H,0,.none⟩=some (.int .i64 p):=kA S _ _ _ (iA t1 0);have d1:V.cell? ⟨H,1,.none⟩=some (.int .i64 c):=kA S _ _ _ (iA t1 1);have d2:V.cell? ⟨H,2,.none⟩=some (.int .i64 m):=kA S _ _ _ (iA t1 2);have bV:=b1.trans (S.mono b1.size);rw[hm]at j;replace j:=hd' j;obtain⟨cn,b4⟩:∃ cn:Nat,c=(cn:Int):=⟨c.toNat,by omega⟩;subst b4;rw[Int.toNat_natCast]at hJ;have ba:=wrp (p*64);have D:capW (p*64)=p*64:=by unfold capW;rw[jN (by omega)]
 have bf:=yn8 cn (by omega);go_wp2_with fail;refine(j _).mono ?_;rintro r w2 ⟨rfl,hw⟩;have b:Below V.heap.size V w2:=hw ▸ br.alloc lr _;clear hw;have b3:=kA b _ _ _ d0;go_wp2_with fail;refine(F _ _).mono ?_;rintro r G ⟨rfl,z,B⟩;obtain⟨s,hs,R⟩:=hidv w2.heap.size;have bi:=b.size;have b7:=z.size;have bp:jb<s:=by omega
 have b8:w.heap.size<=s:=by have:=bV.size;omega
 rw[D,<- R]at B;have bj:=B.lt;rw[<-R]at z b7 ⊢;have i:Below V.heap.size V G:=b.trans (z.mono (by omega));have o:=(i.block _ lV).trans tj;clear R z b b3 b5 D;have j0:=iA o 0;have j1:=iA o 1;have jf:=DA o;have q:=heap_setCell_same G jb 0 _ _ (.pointer (some ⟨s,0,.none⟩)) o;have I:Below w.heap.size w (G.setCell ⟨jb,0,.none⟩ (.pointer (some ⟨s,0,.none⟩))):=Below.setCell (bV.trans (i.mono bV.size)) (by show w.heap.size<=jb;omega) _;have N:RM s (G.setCell ⟨jb,0,.none⟩ (.pointer (some ⟨s,0,.none⟩))) s (.slice none 0 0) (p*64) []:=B.blocks fun k L=>by
  rcases L with rfl|L
  ·exact heap_setCell_other G ⟨jb,0,.none⟩ k _ (by simp;omega)
  simp[Value.ownBlock]at L
 have bb:(G.setCell ⟨jb,0,.none⟩ (.pointer (some ⟨s,0,.none⟩))).cell? ⟨H,1,.none⟩=some (.int .i64 (cn:Int)):=by have h1:=kA i _ _ _ d1;have h2:=heap_setCell_other G ⟨jb,0,.none⟩ H (.pointer (some ⟨s,0,.none⟩)) (by simp;omega);simp only[World.cell?,h2]at h1 ⊢;exact h1
 go_upto_region 4 with fail;clear i o j0 j1 jf B;generalize G.setCell ⟨jb,0,.none⟩ (.pointer (some ⟨s,0,.none⟩))=Y at *;replace q:Y.heap[jb]?=some (.cells #[some s,.slice none 0 0,.int .i64 0,.int .i64 (-1),.int .i64 0] 92 (0,0)):=q;have b0:jb<Y.heap.size:=(jE q);have bn:s<Y.heap.size:=N.lt;have bA:=(Below.refl Y.heap.size Y).alloc lr (.cells (rpsC (List.replicate cn Pt.zero)).toArray 146);have O:RrP (Y.alloc (.cells (rpsC (List.replicate cn Pt.zero)).toArray 146)) Y.heap.size (List.replicate cn Pt.zero):=jA Y _;have C:=(bA.block _ b0).trans q;have Z:=N.below bA;have j1:=iA C 1;have jf:=DA C;obtain⟨pb,bg,l⟩:=hidv Y.heap.size;rw[<-l]at O
 have U:Hid (FS w ((Y.alloc (.cells (rpsC (List.replicate cn Pt.zero)).toArray 146)).setCell ⟨jb,1,.none⟩ (.slice (some ⟨Y.heap.size,0,.none⟩) cn cn)) (.returned (.pointer (some ⟨jb,0,.none⟩))) JR):=hd' (by
  rw[hJ,<- l]
  refine⟨jb,s,pb,rfl,Below.setCell (I.trans (bA.mono I.size)) (by show w.heap.size<=jb;omega) _,?_⟩
  refine⟨?_,?_,?_,⟨by omega,by omega⟩,by omega,by omega,by omega,by simp[Value.ownBlock],by simp[Value.ownBlock]⟩
  ·rw[heap_setCell_same _ jb 1 _ _ _ C]
   show some (Obj.cells #[some s,.slice (some ⟨pb,0,.none⟩) cn cn,.int .i64 0,.int .i64 (-1),.int .i64 0] _ _)=_
   unfold rvV
   rw[List.length_replicate]
  ·exact(Z.base b8).blocks fun k L=>by
    rcases L with rfl|L
    ·exact heap_setCell_other _ ⟨jb,1,.none⟩ k _ (by simp;omega)
    ·simp[Value.ownBlock]at L
  ·exact O.of_block (heap_setCell_other _ ⟨jb,1,.none⟩ pb _ (by simp;omega)))
 clear hJ J O q C N Z I bA l bV b1 S tj;go_wp2;go_ret;have hf:=U.out;rw[World.setCell_alloc_past _ _ _ _ b0]at hf;exact hf
theorem CN{p c m:Int}(hm:mayB p c m=true)(v:Value)(es:List Ev)(w:World)(hr:RdE w v es)(hl:es.length<=100000000)(hw:(runJ (newJ p c m) es).why=0):
  Calls Tryz.prog 11 #[.agg #[p,c,m],v] w fun r w'=>r= .returned (.agg #[.int .i64 (-1),.int .i64 0])/\Below w.heap.size w w':=by
 have Z:=hd' (fun X=>yop hm X);obtain⟨ao,cap,hv,S,bh,D⟩:=hr.nth;have b9:Hid (∀ i,i<=es.length->(0<=(runJ (newJ p c m) (es.take i)).m/\(runJ (newJ p c m) (es.take i)).m<=1000000000)/\(runJ (newJ p c m) (es.take i)).ps.length<=100):=hd' fun i hi=>ym7 p c m _ (by rw[List.length_take];omega);have C:Hid (∀ i (hi:i<es.length),runJ (newJ p c m) (es.take (i+1))=CA (runJ (newJ p c m) (es.take i)) es[i]):=hd' fun i hi=>by rw[List.take_succ_eq_append_getElem hi,wH]
 have O:Hid (runJ (newJ p c m) (es.take es.length)=runJ (newJ p c m) es):=hd' (by rw[List.take_length]);have h0:Hid (runJ (newJ p c m) (es.take 0)=newJ p c m):=hd' rfl;have b5:Hid (∀ i (hi:i<es.length),cF (runJ (newJ p c m) (es.take i)) es[i]=true):=hd' fun i hi=>yny hw i hi;have R:Hid ((runJ (newJ p c m) es).at'= -1):=hd' ((xS hw).trans (BS p c m));replace hw:=hd' hw;obtain⟨n,hn,U⟩:=hidv es.length;rw[<-U]at hv S hl;clear U;subst hv;replace D:=hd' D;have b1:=(Below.refl w.heap.size w).alloc lr (.cells #[p,c,m] 23);have L:=b1.alloc b1.size (.cells #[.int .i64 0,.int .i64 0] 41);obtain⟨t1,t2,bj,_⟩:=MD w (.cells #[p,c,m] 23) (.cells #[.int .i64 0,.int .i64 0] 41);obtain⟨H,hH,M⟩:=hidv w.heap.size;obtain⟨K,hK,N⟩:∃ K,Hid (K=w.heap.size+1)/\K=w.heap.size+1:=⟨_,hd' rfl,rfl⟩;go_in;go_upto_region 1 with fail;generalize (w.alloc (.cells #[p,c,m] 23)).alloc (.cells #[.int .i64 0,.int .i64 0] 41)=W at *;try rw[<-N]at t2 ⊢
 rw[<-M]at t1 ⊢;clear M N;have lK:K<W.heap.size:=(jE t2);have lH:H<W.heap.size:=(jE t1);have bf:=iA t1;go_wp2_with fail;refine(Z W).mono ?_;rintro r w1 ⟨jb,s,pb,rfl,b4,T⟩;obtain⟨B,hB⟩:∃ B,B=W.heap.size:=⟨_,rfl⟩;rw[<-hB]at T;obtain⟨V,rfl⟩:∃ V:World,V=w1:=⟨_,rfl⟩;have b0:W.heap.size<=B:=by omega
 have bg:B<=W.heap.size:=by omega
 clear hB;have bc:w.heap.size<=W.heap.size:=L.size;clear b1;go_wp2_with fail;go_loopw [6] (fun vi wr=>∃ (i:Nat) (sl:Value),i<=n/\vi= .int .i64 i/\JrA B wr jb s pb sl (runJ (newJ p c m) (es.take i))/\Below W.heap.size W wr) (fun vi _=>n-(intOf vi).toNat);case atStart=>exact⟨0,_,Nat.zero_le _,rfl,by rw[h0];exact T,b4⟩
 case round=>
  obtain⟨i,sl,hi,rfl,I,o⟩:=hrel;obtain⟨Y,rfl⟩:∃ V:World,V=wr:=⟨_,rfl⟩;by_cases b8:i<n
  ·have bb:(i:Int)<(n:Int):=by omega
   have bi:(0:Int)<=(i:Int):=by omega
   have bk:IntKind.i64.wrap ((i:Int)+1)=(i:Int)+1:=IntWalk.i64_in _ ⟨by omega,by omega⟩;have z:i<es.length:=hn.out ▸ b8;obtain⟨b,off,b3,hb,hc⟩:=D (fun e=>by rw[e]at z;simp at z);subst b3;have hc:=hc i z;obtain⟨e,he⟩:∃ e,es[i]=e:=⟨_,rfl⟩;have y:=b5 i z;have C:=C i z;rw[he]at hc C y;have E:=b9 i (by omega);have l:=L.trans (o.mono L.size);have x0:Y.cell? ⟨b,off+i*8,.none⟩=some (.int .i64 e.k):=kA l _ _ _ (hc 0 (by omega));have x1:Y.cell? ⟨b,off+i*8+1,.none⟩=some (.int .i64 e.c):=kA l _ _ _ (hc 1 (by omega));have x2:Y.cell? ⟨b,off+i*8+2,.none⟩=some (.int .i64 e.ok):=kA l _ _ _ (hc 2 (by omega));have x3:Y.cell? ⟨b,off+i*8+3,.none⟩=some (.int .i64 e.oa):=kA l _ _ _ (hc 3 (by omega));have x4:Y.cell? ⟨b,off+i*8+4,.none⟩=some (.int .i64 e.on):=kA l _ _ _ (hc 4 (by omega));have x5:Y.cell? ⟨b,off+i*8+5,.none⟩=some (.int .i64 e.at'):=kA l _ _ _ (hc 5 (by omega));have x6:Y.cell? ⟨b,off+i*8+6,.none⟩=some (.int .i64 e.n):=kA l _ _ _ (hc 6 (by omega));have x7:Y.cell? ⟨b,off+i*8+7,.none⟩=some (.int .i64 e.er):=kA l _ _ _ (hc 7 (by omega));have J:=I;have F:=ynp J e y E.1 E.2;unfold Ev.val Ev.cells at F;have G:=o;have q:Hid (∀ w',vC B Y w' jb s pb sl (CA (runJ (newJ p c m) (es.take i)) e)->∃ (j:Nat) (sl:Value),j<=n/\Value.int .i64 ((i:Int)+1)= .int .i64 j/\JrA B w' jb s pb sl (runJ (newJ p c m) (es.take j))/\Below W.heap.size W w'):=hd' fun w' hL=>by obtain⟨⟨ba,b7,_⟩,ho⟩:=hL;refine⟨i+1,ba,by omega,by go_num,by rw[C];exact b7,G.trans (ho.below (by have:=G.size;omega) fun k hk=>Nat.le_trans b0 ((J.yp6 k hk).1))⟩
   replace F:=hd' F;clear hc C he I o l J G E;go_wp2_with (go_at_call 36;refine F.out.mono ?_;rintro r w4 ⟨rfl,hL⟩);exact⟨q _ hL,by simp[intOf];omega⟩
  have b6:i=n:=by omega
  subst b6;rw[hn,O]at I;have tK:=(o.block _ lK).trans t2;have r0:=(iA tK 0).trans (show _=some (.int .i64 0) from rfl);have r1:=(iA tK 1).trans (show _=some (.int .i64 0) from rfl);have rF:=DA tK;have y3:=I.h3;have y4:=I.h4;rw[R]at y3;rw[hw]at y4;have q:Hid (Below w.heap.size w ((Y.setCell ⟨K,0,.none⟩ (.int .i64 (-1))).setCell ⟨K,1,.none⟩ (.int .i64 0))):=hd' (((L.trans (o.mono L.size)).setCell (p:=⟨K,0,.none⟩) (by have:=hK.out;show w.heap.size<=K;omega) _).setCell (p:=⟨K,1,.none⟩) (by have:=hK.out;show w.heap.size<=K;omega) _);have lj:jb<Y.heap.size:=I.lt;clear tK I;go_wp2;exact bodyPost_ret (v:= .agg #[.int .i64 (-1),.int .i64 0]) (by simp[results,Tryz.results11,go_sem,r0,r1]) rfl ⟨rfl,q.out⟩
end

end Go.Proofs.YtmmbicppdjgbmaaGreat
