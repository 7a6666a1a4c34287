/- Texts bound together: WNew WGet WBeg WWho QuiP FreP AdoP AdrP AusP. -/
import Derived.Test.YtedcnffebdpmmaaGreatBu31

import Derived.Test.YtedcnffebdpmmaaGreatBu35

set_option linter.all false
set_option maxHeartbeats 4000000
set_option maxRecDepth 100000
namespace Go.Proofs.YtedcnffebdpmmaaGreat

section

open Go.RowKit

attribute [local go_sem ↓] Go.wp_at_zero Go.wp_at_succ

theorem yfd:(Tryz.prog.info? 43).map (fun i=>(i.zero,i.size,i.bytes))=some (some (.pointer none),1,8):=by kernel_rfl
theorem z8e(n:Nat)(l:n<=100):∀ u:World,(Instr.makeSlice 67 (.int .i64 (n:Int)) (.int .i64 (n:Int))).run Tryz.prog u= .ok (.slice (some ⟨u.heap.size,0,.none⟩) n n) (u.alloc (.cells (madeCells #[.pointer none] n) 43)):=fun u=>by
 obtain⟨j,hi,b,f,i⟩:=info_parts yfd
 have h:=run_make (P:=Tryz.prog) u 67 43 j (.pointer none) Tryz.underlying67 hi b .i64 .i64 (n:Int) (n:Int) (by omega) (Int.le_refl _) (by rw[i];omega) (by omega)
 rw[Int.toNat_natCast]at h
 simpa[f,Value.cells] using h
theorem z6e(n:Nat):madeCells #[.pointer none] n=(List.replicate n (.pointer none)).toArray:=by
 apply Array.toList_inj.1;rw[toList_madeCells_one]
theorem z0c{W Z:World}{s:Sh}{p b lb:Nat}(J:mayB s.p s.c s.m=true)(z:W.heap.size<=p/\W.heap.size<=b/\W.heap.size<=lb)(o:lb≠p/\lb≠b)
  (y:zaq Z p b (zgj (zb6 s.p s.c s.m).toNat)) (G:zaa Z lb (madeCells #[.pointer none] s.c.toNat) 43) (D:Below W.heap.size W Z):
  Below W.heap.size W (Z.alloc (.cells #[s.p,s.c,s.m,some p,.slice (some ⟨lb,0,.none⟩) s.c.toNat s.c.toNat,.slice none 0 0,.slice none 0 0] 70))/\
  ∃ x,WdP W.heap.size (fun i=>W.heap.size<=i/\i<(Z.alloc (.cells #[s.p,s.c,s.m,some p,.slice (some ⟨lb,0,.none⟩) s.c.toNat s.c.toNat,.slice none 0 0,.slice none 0 0] 70)).heap.size)
   (Z.alloc (.cells #[s.p,s.c,s.m,some p,.slice (some ⟨lb,0,.none⟩) s.c.toNat s.c.toNat,.slice none 0 0,.slice none 0 0] 70)) Z.heap.size s (zde s) x:=by
 have hb:=zar.1 J;have hs:=D.size;have j:=(Below.refl Z.heap.size Z).alloc lr (.cells #[s.p,s.c,s.m,some p,.slice (some ⟨lb,0,.none⟩) s.c.toNat s.c.toNat,.slice none 0 0,.slice none 0 0] 70);have r:zaa (Z.alloc (.cells #[s.p,s.c,s.m,some p,.slice (some ⟨lb,0,.none⟩) s.c.toNat s.c.toNat,.slice none 0 0,.slice none 0 0] 70)) Z.heap.size #[s.p,s.c,s.m,some p,.slice (some ⟨lb,0,.none⟩) s.c.toNat s.c.toNat,.slice none 0 0,.slice none 0 0] 70:=heap_alloc_new _ _;have M:=y.ltp;have H:=y.ltb;have I:=G.lt;have C:=y.ne;have f:(zde s).l.length=s.c.toNat:=by simp[zde]
 have q:∀ c,(zde s).l.getD c none=none:=fun c=>by unfold zde;rw[List.getD_eq_getElem?_getD,List.getElem?_replicate];split<;>rfl
 have L:(Z.alloc (.cells #[s.p,s.c,s.m,some p,.slice (some ⟨lb,0,.none⟩) s.c.toNat s.c.toNat,.slice none 0 0,.slice none 0 0] 70)).heap.size=Z.heap.size+1:=by simp
 refine⟨D.alloc (by omega) _,⟨p,b,lb,.slice none 0 0,.slice none 0 0,List.replicate s.c.toNat (.pointer none),fun _=>0,fun i=>if i=Z.heap.size then 0 else if i=p then 1 else if i=b then 2 else 3,fun _ _=>False⟩,
  ?_,y.below j,?_,by simp[f],fun c hc=>?_,fun c k E=>?_,⟨by simp[zde],.inl ⟨rfl,rfl⟩⟩,⟨by simp[zde],.inl ⟨rfl,rfl⟩⟩,fun i hi=>hi,⟨⟨hs,by omega⟩,if_pos rfl⟩,⟨⟨z.1,by dsimp only;omega⟩,?_⟩,⟨⟨z.2.1,by dsimp only;omega⟩,?_⟩,⟨⟨z.2.2,by dsimp only;omega⟩,?_⟩,fun i e=>(by cases e),fun i e=>(by cases e),fun c i e=>e.elim⟩
 ·rw[f];exact r
 ·have h1:=G.below j;rw[z6e]at h1;exact h1
 ·rw[q];show (List.replicate s.c.toNat (Value.pointer none))[c]?=some (.pointer none);rw[List.getElem?_replicate,if_pos (by omega)]
 ·rw[q]at E;cases E
 ·show (if p=Z.heap.size then 0 else if p=p then 1 else if p=b then 2 else 3)=1;rw[if_neg (by omega),if_pos rfl]
 ·show (if b=Z.heap.size then 0 else if b=p then 1 else if b=b then 2 else 3)=2;rw[if_neg (by omega),if_neg (fun e=>C e.symm),if_pos rfl]
 show (if lb=Z.heap.size then 0 else if lb=p then 1 else if lb=b then 2 else 3)=3;rw[if_neg (by omega),if_neg o.1,if_neg o.2]
theorem zzx(s:Sh)(W:World)(hm:mayB s.p s.c s.m=true):
  Calls Tryz.prog 19 #[.agg #[s.p,s.c,s.m]] W fun e w'=>Below W.heap.size W w'/\∃ g x,e= .returned (.tuple #[.pointer (some ⟨g,0,.none⟩),.int .i64 0])/\WdP W.heap.size (fun i=>W.heap.size<=i/\i<w'.heap.size) w' g s (zde s) x:=by
 have D:=fun Y=>zcc s.p s.c s.m Y;rw[hm]at D;have hb:=zar.1 hm;have hT:=(zoy hm).2;have j:=fun Z p b lb=>z0c (W:=W) (Z:=Z) (p:=p) (b:=b) (lb:=lb) hm;obtain⟨sp,sc,l⟩:=s;dsimp only at *;obtain⟨n,rfl⟩:∃ n:Nat,sc=(n:Int):=⟨sc.toNat,by omega⟩;rw[Int.toNat_natCast]at j;have E:=fun Y=>zro sp (n:Int) l Y;obtain⟨N,hN,U⟩:∃ N:Nat,zb6 sp (n:Int) l=(N:Int)/\N<=2000:=⟨(zb6 sp (n:Int) l).toNat,by omega,by omega⟩;rw[hN]at E j;rw[Int.toNat_natCast]at j;have J:=fun Y=>z7s N U Y;have b8:=z8e n (by omega);replace D:=hd' D;replace E:=hd' E;replace J:=hd' J;replace j:=hd' j;have b9:(n:Int)<=12:=by omega
 have hH:=heap_alloc_new W (.cells #[sp,.int .i64 (n:Int),l] 23);have t0:zaa (W.alloc (.cells #[sp,.int .i64 (n:Int),l] 23)) W.heap.size #[sp,.int .i64 (n:Int),l] 23:=hH;have R:=t0.alloc (.cells #[sp,.int .i64 (n:Int),l] 23);have z:Below W.heap.size W ((W.alloc (.cells #[sp,.int .i64 (n:Int),l] 23)).alloc (.cells #[sp,.int .i64 (n:Int),l] 23)):=by go_grown
 clear hm hb hT hN U hH t0;go_in;go_upto_region 3 with(first|(go_at_call 28;(with_reducible refine(D.out _).mono ?_);rintro r w1 ⟨rfl,b3⟩;obtain rfl:=b3.symm));generalize (W.alloc (.cells #[sp,.int .i64 (n:Int),l] 23)).alloc (.cells #[sp,.int .i64 (n:Int),l] 23)=X at *;have b5:=z.size;obtain⟨H,hH,T⟩:=hidv W.heap.size;rw[<-T]at R ⊢;clear T;have lH:=R.lt;have y:∀ Y,zaa Y H #[sp,.int .i64 (n:Int),l] 23->Y.cell? ⟨H,0,.none⟩=some (.int .i64 sp)/\Y.cell? ⟨H,1,.none⟩=some (.int .i64 (n:Int))/\Y.cell? ⟨H,2,.none⟩=some (.int .i64 l):=fun Y h=>⟨h.cell 0,h.cell 1,h.cell 2⟩;replace y:=hd' y
 go_region_held3 (fun Y=>Y.cell? ⟨H,0,.none⟩=some (.int .i64 sp)/\Y.cell? ⟨H,1,.none⟩=some (.int .i64 (n:Int))/\Y.cell? ⟨H,2,.none⟩=some (.int .i64 l))
  (first|exact y.out _ R.drew|exact y.out _ (R.drew.alloc _)|exact y.out _ ((t5.alloc _).alloc _)|exact y.out _ (t5.alloc _)|exact y.out _ t5|exact y.out _ (t4.alloc _)|exact y.out _ t4)
  (first|(go_at_call 45;(with_reducible refine(E.out _).mono ?_);rintro r L ⟨rfl,G⟩;have O:Below X.heap.size X L:=(by first|exact zab br.drew G|exact zab (br.drew.alloc lr _) G);have t4:=R.below O;try (have b0:zaa L X.heap.size (madeCells #[.pointer none] n) 43:=zaa.below (heap_alloc_new X.drew _) G))|(go_at_call 44;(with_reducible refine(J.out _).mono ?_);rintro r o ⟨p,b,rfl,q,b1,V,C⟩;have g5:Below X.heap.size X o:=(by first|exact zab O C|exact zab (O.alloc O.size _) C);have t5:=R.below g5;(try (have I:zaa o X.heap.size (madeCells #[.pointer none] n) 43:=zaa.below b0 C));(try (have I:zaa o L.heap.size (madeCells #[.pointer none] n) 43:=zaa.below (heap_alloc_new L _) C))))
 ·have b2:=O.size;have b7:=q.ltp;have b6:=q.ltb;have ha:=(Below.refl o.heap.size o).alloc lr (.cells (madeCells #[.pointer none] n) 43);obtain⟨S,x,M⟩:=j.out (o.alloc (.cells (madeCells #[.pointer none] n) 43)) p b o.heap.size ⟨by omega,by omega,by omega⟩ ⟨by omega,by omega⟩ (q.below ha) (heap_alloc_new o _) (zab (zab z g5) ha);have hz:(o.alloc (.cells (madeCells #[.pointer none] n) 43)).heap.size=o.heap.size+1:=by simp
  rw[hz]at M;go_wp2_with fail;go_returns;exact⟨S,_,x,rfl,M⟩
 ·have b2:=O.size;have hz:(L.alloc (.cells (madeCells #[.pointer none] n) 43)).heap.size=L.heap.size+1:=by simp
  rw[hz]at b1 V;obtain⟨S,x,M⟩:=j.out o p b L.heap.size ⟨by omega,by omega,by omega⟩ ⟨by omega,by omega⟩ q I (zab z g5);go_wp2_with fail;go_returns;exact⟨S,_,x,rfl,M⟩
 have b4:=b0.lt;obtain⟨S,x,M⟩:=j.out o p b X.heap.size ⟨by omega,by omega,by omega⟩ ⟨by omega,by omega⟩ q I (zab z g5);go_wp2_with fail;go_returns;exact⟨S,_,x,rfl,M⟩
theorem z8i(s:Sh)(W:World)(l:¬ mayB s.p s.c s.m=true):
  Calls Tryz.prog 19 #[.agg #[s.p,s.c,s.m]] W fun e w'=>Below W.heap.size W w'/\e= .returned (.tuple #[.pointer none,.int .i64 1]):=by
 have b:=fun Y=>zcc s.p s.c s.m Y;have i:mayB s.p s.c s.m=false:=by simpa using l
 rw[i]at b;obtain⟨sp,o,q⟩:=s;dsimp only at *;replace b:=hd' b;clear l i;go_in;go_wp2_with (first|(go_at_call 28;(with_reducible refine(b.out _).mono ?_);rintro r t ⟨rfl,j⟩;obtain rfl:=j.symm));go_returns;exact⟨by go_grown,rfl⟩
theorem zlg{P:Program}{w:World}{a:Addr}{m:Mode}(k:FloatKind)(x:Nat):(store a (.float k x) m).run P w=stored P w a (.float k x) m:=run_store P w a _ m rfl
attribute [local go_sem] zlg

theorem zru(xs:List Ev):∀ u ∈ xs.flatMap (fun e=>e.cells.toList),u.oneCell'=true:=fun u hu=>by
 obtain⟨e,_,b⟩:=List.mem_flatMap.1 hu
 simp only[Ev.cells,List.mem_cons,List.not_mem_nil,or_false]at b
 rcases b with rfl|rfl|rfl|rfl|rfl|rfl|rfl|rfl<;>rfl
theorem zvh(xs:List Ev)(v:Value)(w:World)(I:RdS w 8 v xs.length (xs.flatMap fun e=>e.cells.toList))(H:xs.length<=100000000):
  Calls Tryz.prog 43 #[v] w fun e w'=>∃ v',e= .returned v'/\Below w.heap.size w w'/\w'.ownsRow w.heap.size 77 8 v' xs.length (xs.flatMap fun e=>e.cells.toList):=by
 obtain⟨ao,cap,rfl,G,J,N,p⟩:=id I;have o:∀ W:World,(binOp .eql 57 (.slice ao xs.length cap) (.slice none 0 0)).run Tryz.prog W= .ok (.bool ao.isNone) W:=fun W=>Lib.run_eql_slice_nil W _ _ ao _ _ _ _ Tryz.underlying57;rcases ao with _|ad
 ·have L:xs= []:=by
   rcases xs with _|⟨b,l⟩
   ·rfl
   obtain⟨_,_,h,_⟩:=p (by simp);cases h
  subst L;replace o:∀ W:World,(binOp .eql 57 (.slice none 0 cap) (.slice none 0 0)).run Tryz.prog W= .ok (.bool true) W:=o;show Calls Tryz.prog 43 #[.slice none 0 cap] w _;go_in;go_wp2;go_ret;exact⟨_,rfl,Below.refl _ _,⟨rfl,.inl ⟨rfl,rfl⟩⟩⟩
 obtain⟨M,r,z,C,D⟩:=info_parts zdb;have m:(w.alloc (.cells #[] 77)).ownsRow w.heap.size 77 8 (.slice (some ⟨w.heap.size,0,.none⟩) 0 0) 0 []:=World.ownsRow_lit w #[] 0 lr (Nat.zero_le _) rfl;have y:RdS (w.alloc (.cells #[] 77)) 8 (.slice (some ad) xs.length cap) xs.length (xs.flatMap fun e=>e.cells.toList):=RdS.alloc I _;go_in;go_wp2_with (refine zay rfl (.tmp 5) (.tmp 6) 57 rfl w.heap.size 77 M _ 8 64 Tryz.underlying57 r z C D rfl (by omega) _ 0 [] rfl m _ xs.length _ rfl y (zru xs) (by simp only[maxLen];omega) (by omega) (by simp) ?_;intro O R i j E;have q:=zaw ((Below.refl w.heap.size w).alloc lr _) m (by simp) j);go_ret;rw[Nat.zero_add,List.nil_append]at i;exact⟨_,rfl,q,i⟩
theorem zko{B:Nat}{F:Nat->Prop}{W:World}{g:Nat}{s:Sh}{d:Wd}{x:Wx}(h:WdP B F W g s d x)(l:d.tr.length<=100000000):
  Calls Tryz.prog 18 #[some g] W fun e w'=>∃ v',e= .returned v'/\Below W.heap.size W w'/\w'.ownsRow W.heap.size 77 8 v' d.tr.length (d.tr.flatMap fun e=>e.cells.toList):=by
 have j:∀ (p:Nat) (W:World),(binOp .eql 28 (.pointer (some ⟨p,0,.none⟩)) (.pointer none)).run Tryz.prog W= .ok (.bool false) W:=fun p W=>by kernel_rfl
 have c0:=ce x.tv (h.top.cell 5);have hc:=hd' (zvh d.tr x.tv W (RdS.zew h.tr) l);clear h;generalize x.tv=v at *;go_in;go_wp2_with (go_at_call 43;refine hc.out.mono ?_;rintro e o ⟨m,rfl,b,i⟩);go_ret;exact⟨_,rfl,b,i⟩
theorem ycw{B:Nat}{F:Nat->Prop}{W:World}{g:Nat}{s:Sh}{d:Wd}{x:Wx}(h:WdP B F W g s d x):
  Calls Tryz.prog 15 #[some g] W fun e w'=>∃ v',e= .returned v'/\Below W.heap.size W w'/\w'.ownsRow W.heap.size 81 1 v' d.m.ws.length (d.m.ws.map (Value.int .u64)):=by
 have l:∀ (p:Nat) (W:World),(binOp .eql 28 (.pointer (some ⟨p,0,.none⟩)) (.pointer none)).run Tryz.prog W= .ok (.bool false) W:=fun p W=>by kernel_rfl
 have c0:=ce (.pointer (some ⟨x.p,0,.none⟩)) (h.top.cell 3);have hc:=hd' (z8c x.p x.b d.m W h.wds);have lg:=h.top.lt;clear h;go_in;go_wp2_with (go_at_call 38;refine hc.out.mono ?_;rintro e q ⟨o,rfl,i,j⟩);go_ret;exact⟨_,rfl,i,j⟩
theorem zva{B:Nat}{F:Nat->Prop}{W:World}{g:Nat}{s:Sh}{d:Wd}{x:Wx}(h:WdP B F W g s d x)(c:Int)(hc:0<=c/\c.toNat<d.l.length)(i:d.l.length<=100):
  Calls Tryz.prog 10 #[some g,c] W fun e w'=>e= .returned (ptrK (d.kl c) (x.qs c.toNat))/\Below W.heap.size W w':=by
 have b:∀ (p:Nat) (W:World),(binOp .eql 28 (.pointer (some ⟨p,0,.none⟩)) (.pointer none)).run Tryz.prog W= .ok (.bool false) W:=fun p W=>by kernel_rfl
 have c4:=ce (.slice (some ⟨x.lb,0,.none⟩) d.l.length d.l.length) (h.top.cell 4);have lg:=h.top.lt;have o:=h.ptr hc.1 hc.2;have j:=h.lst.lt;have h0:=hc.1;have h1:c<(d.l.length:Int):=by omega
 have h2:¬ c<0:=by omega
 have h3:¬ (d.l.length:Int)<=c:=by omega
 clear h hc;generalize ptrK (d.kl c) (x.qs c.toNat)=m at *;go_in;go_wp2_with fail;go_returns;exact⟨rfl,by go_grown⟩
theorem znm(c:Ch)(W:World):Calls Tryz.prog 8 #[.agg c.cells.toArray] W fun e w'=>e= .returned (.agg c.cells.toArray)/\Below W.heap.size W w':=by
 obtain⟨l,j,m,b,cn,i⟩:=c;show Calls Tryz.prog 8 #[.agg #[l,j,m,b,cn,.float .f64 i]] W fun e w'=>e= .returned (.agg #[l,j,m,b,cn,.float .f64 i])/\Below W.heap.size W w';go_in;go_wp2_with fail;have o:(W.alloc (.cells #[l,j,m,b,cn,.float .f64 i] 36)).heap.size=W.heap.size+1:=by simp
 have t:zaa ((W.alloc (.cells #[l,j,m,b,cn,.float .f64 i] 36)).alloc (.cells #[l,j,m,b,cn,.float .f64 i] 39)) (W.heap.size+1) #[l,j,m,b,cn,.float .f64 i] 39:=by have h:=heap_alloc_new (W.alloc (.cells #[l,j,m,b,cn,.float .f64 i] 36)) (.cells #[l,j,m,b,cn,.float .f64 i] 39);rw[o]at h;exact h
 have hb:Below W.heap.size W ((W.alloc (.cells #[l,j,m,b,cn,.float .f64 i] 36)).alloc (.cells #[l,j,m,b,cn,.float .f64 i] 39)):=by go_grown
 generalize (W.alloc (.cells #[l,j,m,b,cn,.float .f64 i] 36)).alloc (.cells #[l,j,m,b,cn,.float .f64 i] 39)=X at *;generalize W.heap.size+1=H at *;obtain⟨r0,p,q,r,y⟩:=ci5 l j m b cn t.cell;have z:=ce (.float .f64 i) (t.cell 5);exact bodyPost_ret (v:= .agg #[l,j,m,b,cn,.float .f64 i]) (by simp[results,Tryz.results8,go_sem,r0,p,q,r,y,z]) rfl ⟨rfl,hb⟩
end

section

open Go.RowKit

attribute [local go_sem ↓] Go.wp_at_zero Go.wp_at_succ

theorem ydu:(Tryz.prog.info? 284).map (fun i=>(i.zero,i.size,i.bytes))=some (some (.pointer none),1,8):=by kernel_rfl
theorem z0w(n:Nat)(l:n<=100):∀ u:World,(Instr.makeSlice 108 (.int .i64 (n:Int)) (.int .i64 (n:Int))).run Tryz.prog u= .ok (.slice (some ⟨u.heap.size,0,.none⟩) n n) (u.alloc (.cells (madeCells #[.pointer none] n) 284)):=fun u=>by
 obtain⟨j,hi,b,f,i⟩:=info_parts ydu
 have h:=run_make (P:=Tryz.prog) u 108 284 j (.pointer none) Tryz.underlying108 hi b .i64 .i64 (n:Int) (n:Int) (by omega) (Int.le_refl _) (by rw[i];omega) (by omega)
 rw[Int.toNat_natCast]at h
 simpa[f,Value.cells] using h
theorem z0l(n:Nat)(i:n<=2000)(w:World):
  Calls Tryz.prog 47 #[.int .i64 (n:Int)] w fun e w'=>(∃ p,e= .returned (.pointer (some ⟨p,0,.none⟩)))/\Below w.heap.size w w':=by
 have b:=zv8 n (by omega);have h1:decide ((n:Int)<0)=false:=decide_eq_false (by omega);have h2:decide ((2000:Int)<(n:Int))=false:=decide_eq_false (by omega);go_in;go_wp2_with fail;go_returns;exact⟨⟨_,rfl⟩,by go_grown⟩
theorem ybd(s:Sh)(W:World)(I:mayB s.p s.c s.m=true):
  Calls Tryz.prog 20 #[.agg #[s.p,s.c,s.m]] W fun e w'=>Below W.heap.size W w'/\∃ g,e= .returned (.tuple #[.pointer (some ⟨g,0,.none⟩),.int .i64 0]):=by
 have j:=fun Y=>refMay_any s.p s.c s.m Y;rw[I]at j;have hb:=zar.1 I;have hT:=(zoy I).2;have l:=fun Y=>zv0 s Y;obtain⟨sp,T,b⟩:=s;dsimp only at *;obtain⟨n,rfl⟩:∃ n:Nat,T=(n:Int):=⟨T.toNat,by omega⟩;obtain⟨N,S,z⟩:∃ N:Nat,zb6 sp (n:Int) b=(N:Int)/\N<=2000:=⟨(zb6 sp (n:Int) b).toNat,by omega,by omega⟩;rw[S]at l;have o:=fun Y=>z0l N z Y;have b1:=z0w n (by omega);replace j:=hd' j;replace l:=hd' l;replace o:=hd' o;have b2:(n:Int)<=12:=by omega
 have L:=heap_alloc_new W (.cells #[sp,.int .i64 (n:Int),b] 23);have U:zaa (W.alloc (.cells #[sp,.int .i64 (n:Int),b] 23)) W.heap.size #[sp,.int .i64 (n:Int),b] 23:=L;have q:=U.alloc (.cells #[sp,.int .i64 (n:Int),b] 23);have C:Below W.heap.size W ((W.alloc (.cells #[sp,.int .i64 (n:Int),b] 23)).alloc (.cells #[sp,.int .i64 (n:Int),b] 23)):=by go_grown
 clear I hb hT S z L U;go_in;go_upto_region 3 with(first|(go_at_call 46;(with_reducible refine(j.out _).mono ?_);rintro r w1 ⟨rfl,M⟩;obtain rfl:=M.symm));generalize (W.alloc (.cells #[sp,.int .i64 (n:Int),b] 23)).alloc (.cells #[sp,.int .i64 (n:Int),b] 23)=X at *;obtain⟨H,L,y⟩:=hidv W.heap.size;rw[<-y]at q ⊢;clear y;have lH:=q.lt;have i:∀ Y,zaa Y H #[sp,.int .i64 (n:Int),b] 23->Y.cell? ⟨H,0,.none⟩=some (.int .i64 sp)/\Y.cell? ⟨H,1,.none⟩=some (.int .i64 (n:Int))/\Y.cell? ⟨H,2,.none⟩=some (.int .i64 b):=fun Y h=>⟨h.cell 0,h.cell 1,h.cell 2⟩;replace i:=hd' i
 go_region_held3 (fun Y=>Y.cell? ⟨H,0,.none⟩=some (.int .i64 sp)/\Y.cell? ⟨H,1,.none⟩=some (.int .i64 (n:Int))/\Y.cell? ⟨H,2,.none⟩=some (.int .i64 b))
  (first|exact i.out _ q.drew|exact i.out _ (q.drew.alloc _)|exact i.out _ ((O.alloc _).alloc _)|exact i.out _ (O.alloc _)|exact i.out _ O|exact i.out _ (V.alloc _)|exact i.out _ V)
  (first|(go_at_call 48;(with_reducible refine(l.out _).mono ?_);rintro r w4 ⟨rfl,D⟩;have G:Below X.heap.size X w4:=(by first|exact zab br.drew D|exact zab (br.drew.alloc lr _) D);have V:=q.below G)|(go_at_call 47;(with_reducible refine(o.out _).mono ?_);rintro r w5 ⟨⟨p,rfl⟩,E⟩;have J:Below X.heap.size X w5:=(by first|exact zab G E|exact zab (G.alloc G.size _) E);have O:=q.below J))
 all_goals have b0:=C.size;have Z:=J.size;have R:=zab C J;go_wp2_with fail;go_returns;exact⟨by first|exact(R.alloc (by omega) _)|exact((R.alloc (by omega) _).alloc (by simp;omega) _),_,rfl⟩
theorem yez(s:Sh)(W:World)(l:¬ mayB s.p s.c s.m=true):
  Calls Tryz.prog 20 #[.agg #[s.p,s.c,s.m]] W fun e w'=>Below W.heap.size W w'/\e= .returned (.tuple #[.pointer none,.int .i64 1]):=by
 have b:=fun Y=>refMay_any s.p s.c s.m Y;have i:mayB s.p s.c s.m=false:=by simpa using l
 rw[i]at b;obtain⟨sp,o,q⟩:=s;dsimp only at *;replace b:=hd' b;clear l i;go_in;go_wp2_with (first|(go_at_call 46;(with_reducible refine(b.out _).mono ?_);rintro r t ⟨rfl,j⟩;obtain rfl:=j.symm));go_returns;exact⟨by go_grown,rfl⟩
theorem znk(s:Sh)(W:World)(C:mayB s.p s.c s.m=true):
  Calls Tryz.prog 6 #[.agg #[s.p,s.c,s.m]] W fun e w'=>Below W.heap.size W w'/\∃ g v x,e= .returned (.tuple #[.pointer (some ⟨g,0,.none⟩),.pointer (some ⟨v,0,.none⟩)])/\WdP W.heap.size (fun i=>W.heap.size<=i/\i<w'.heap.size) w' g s (zde s) x:=by
 have q:=fun Y=>zzx s Y C;have y:=fun Y=>ybd s Y C;have G:∀ (p:Nat) (W:World),(binOp .eql 28 (.pointer (some ⟨p,0,.none⟩)) (.pointer none)).run Tryz.prog W= .ok (.bool false) W:=fun p W=>by kernel_rfl
 have z:=(Below.refl W.heap.size W).alloc lr (.cells #[s.p,s.c,s.m] 23);have E:zaa (W.alloc (.cells #[s.p,s.c,s.m] 23)) W.heap.size #[s.p,s.c,s.m] 23:=heap_alloc_new _ _;replace q:=hd' q;replace y:=hd' y;clear C;go_in;go_upto_region 1 with fail;have o:(W.alloc (.cells #[s.p,s.c,s.m] 23)).heap.size=W.heap.size+1:=by simp
 generalize W.alloc (.cells #[s.p,s.c,s.m] 23)=X at *;obtain⟨H,M,b⟩:=hidv W.heap.size;rw[<-b]at E o ⊢;have I:=E.cell;replace o:=hd' o;replace b:=hd' b;go_wp2_with (first|(go_at_call 19;(with_reducible refine(q.out _).mono ?_);rintro r N ⟨j,g,x,rfl,D⟩;have L:=E.below j;have J:=L.cell)|(go_at_call 20;(with_reducible refine(y.out _).mono ?_);rintro r O ⟨l,v,rfl⟩));go_returns;have h1:=j.size;have h2:=l.size;have h3:=o.out;have h4:=b.out;exact⟨zab (zab z j) l,g,v,x,rfl,((D.below l).lower (by omega)).weak (fun i hi=>⟨by omega,by omega⟩) (fun i hi=>hi)⟩
theorem yfo(s:Sh)(W:World)(y:¬ mayB s.p s.c s.m=true):
  Calls Tryz.prog 6 #[.agg #[s.p,s.c,s.m]] W fun e w'=>Below W.heap.size W w'/\e= .returned (.tuple #[.pointer none,.pointer none]):=by
 have j:=fun Y=>z8i s Y y;have l:=fun Y=>yez s Y y;have o:=(Below.refl W.heap.size W).alloc lr (.cells #[s.p,s.c,s.m] 23);have z:zaa (W.alloc (.cells #[s.p,s.c,s.m] 23)) W.heap.size #[s.p,s.c,s.m] 23:=heap_alloc_new _ _;have C:∀ W:World,(binOp .eql 28 (.pointer none) (.pointer none)).run Tryz.prog W= .ok (.bool true) W:=fun W=>by kernel_rfl
 replace j:=hd' j;replace l:=hd' l;clear y;go_in;go_upto_region 1 with fail;generalize W.alloc (.cells #[s.p,s.c,s.m] 23)=X at *;obtain⟨H,I,b⟩:=hidv W.heap.size;rw[<-b]at z ⊢;clear b;have D:=z.cell;go_wp2_with (first|(go_at_call 19;(with_reducible refine(j.out _).mono ?_);rintro r J ⟨i,rfl⟩;have G:=z.below i;have E:=G.cell)|(go_at_call 20;(with_reducible refine(l.out _).mono ?_);rintro r L ⟨q,rfl⟩));go_returns;exact⟨zab (zab o i) q,rfl⟩
section

variable {B:Nat} {F:Nat->Prop} {W:World} {g:Nat} {s:Sh} {d:Wd} {x:Wx}

end

end

section

def Wd.rest (s:Sh) (d:Wd) (c:Int):Wd:=d.goN s c (z5k s)
theorem mostV_le{s:Sh}(h:mayB s.p s.c s.m=true):z5k s<=8000:=by
 have hb:=zar.1 h;unfold z5k;omega
section

variable {s:Sh} {d:Wd} {n:Nat} {c:Int}

theorem ai_weak{m:Nat}(h:AI s d n)(b:n<=m):AI s d m:=⟨⟨h.1.fi,h.1.fit,h.1.len,h.1.kl,⟨h.1.st.1,by have:=h.1.st.2;omega⟩,by have:=h.1.tr;omega,h.1.lg⟩,h.2⟩
def Rest (d:Wd) (c:Int):Prop:=∃ k,d.kl c=some k/\k.job=none
theorem rest_asks{o:Op3}(h:wdOk s d n)(i:Rest d c)(j:1<=o.k/\o.k<=4):(d.act s ⟨2,c,o.k,o.a,o.n,0⟩).2=0:=by
 obtain⟨k,h1,h2⟩:=i;obtain⟨_,_,f⟩:=h.kl _ _ h1;unfold Wd.act;rw[if_neg (by unfold Ch.bad;dsimp only;omega),if_neg (show ¬ (2:Int)=1 by decide)];dsimp only;rw[h1];dsimp only;rw[if_neg (show ¬ (2:Int)=3 by decide),if_pos rfl];unfold Wd.ask Kl.invoke;dsimp only;have b:k.rests=true:=by unfold Kl.rests;rw[h2];rfl
 rw[if_neg (by rw[b];decide),if_neg (show ¬ ((⟨2,c,o.k,o.a,o.n,0⟩:Ch).op.k<1\/4<(⟨2,c,o.k,o.a,o.n,0⟩:Ch).op.k) from (show ¬ (o.k<1\/4<o.k) by omega))];split<;>rfl
theorem rest_ask{o:Op3}(h:wdOk s d n)(f:Rest d c)(b:1<=o.k/\o.k<=4):Rest (askW s d c o) c:=by
 obtain⟨k,h1,h2,_⟩:=yfn h (rest_asks h f b);exact⟨k,h1,h2⟩
end

end

section

section

variable {s:Sh} {d:Wd} {n:Nat} {c:Int}

def Fresh (s:Sh) (d:Wd) (c:Int):Prop:=∃ σ,WI s σ d/\σ.st c= .unused
theorem fresh_new(b:mayB s.p s.c s.m=true)(c:Int):Fresh s (zde s) c:=⟨z9x,ydc b,rfl⟩
theorem fresh_act(h:Fresh s d c)(hd:wdOk s d n){x:Ch}(i:x.client≠c):Fresh s (d.act s x).1 c:=by
 obtain⟨σ,b,hu⟩:=h;have f:∀ v,(σ.stat x.client v).st c= .unused:=fun v=>by show up σ.st x.client v c=_;rw[z6r _ (Ne.symm i)];exact hu
 unfold Wd.act;split
 ·exact⟨σ,b,hu⟩
 rename_i hb;unfold Ch.bad at hb;split
 ·by_cases h0:d.stat x.client=0
  ·exact⟨_,zqr b hd x (by omega) h0,f _⟩
  unfold Wd.begin;rw[if_neg h0];exact⟨σ,b,hu⟩
 cases hk:d.kl x.client with
 |none=>exact⟨σ,b,hu⟩;|some k=>
  dsimp only;split
  ·cases hj:k.job with
   |none=>
    have:k.step s d.m=(k,d.m, [],2):=by unfold Kl.step;rw[hj]
    unfold Wd.step;rw[this];dsimp only;exact⟨σ,zw8 b hk (b.li _ k hk).2 (.inl rfl) _ _,hu⟩
   |some j=>have h1:=zt5 b hd hk hj;exact⟨_,h1.1,(h1.2.1.st c).2 hu⟩
  split
  ·exact⟨σ,zwb b hd x hk,hu⟩
  exact⟨_,zp4 b hd hk,f _⟩
theorem fresh_stat(h:Fresh s d c)(hc:0<=c/\c<s.c):d.stat c=0:=by
 obtain⟨σ,b,hu⟩:=h;have h1:=b.rep.st c hc;rw[(ixs b.rep.fi).2.2.2 _ hc,hu]at h1;unfold Wd.stat;rw[h1];rfl
theorem fresh_start(h:Fresh s d c)(hd:wdOk s d n)(hc:0<=c/\c<s.c):(d.act s ⟨1,c,0,0,0,0⟩).2=0/\∃ k,(d.act s ⟨1,c,0,0,0,0⟩).1.kl c=some k:=by
 have h0:=fresh_stat h hc;have hi:c.toNat<d.l.length:=by rw[hd.len];omega
 unfold Wd.act;rw[if_neg (by unfold Ch.bad;dsimp only;omega),if_pos rfl];unfold Wd.begin;dsimp only;rw[if_pos h0];exact⟨rfl,_,by rw[d.zdk hc.1 hi,if_pos rfl]⟩
end

end

section

theorem turn_keeps(s:Sh)(t:Ad)(a b:Int):(t.turn s a b).done=t.done/\(t.turn s a b).c=t.c/\(t.turn s a b).d=t.d/\(3<=a->3<=b->3<=(t.turn s a b).next):=by
 unfold Ad.turn;dsimp only;by_cases h:t.at'+1=s.p
 ·rw[if_pos h];dsimp only;split
  ·exact⟨rfl,rfl,rfl,fun _ _=>(by show (3:Int)<=10;decide)⟩
  exact⟨rfl,rfl,rfl,fun _ h=>h⟩
 rw[if_neg h];dsimp only;split
 ·exact⟨rfl,rfl,rfl,fun _ _=>(by show (3:Int)<=10;decide)⟩
 exact⟨rfl,rfl,rfl,fun h _=>h⟩
theorem slot_keeps(s:Sh)(t:Ad):(t.slot s).done=t.done/\(t.slot s).c=t.c/\(t.slot s).d=t.d/\3<=(t.slot s).next:=by
 unfold Ad.slot;split
 ·obtain⟨h1,h2,h3,h4⟩:=turn_keeps s ({t with i:=0,next:=11}:Ad) 10 13;exact⟨h1,h2,h3,h4 (by decide) (by decide)⟩
 exact⟨rfl,rfl,rfl,(by show (3:Int)<=11;decide)⟩
structure AdMid (t:Ad) (σ:Ab) (r:Ad × Ab):Prop where
 dn:r.1.done=false
 nx:3<=r.1.next
 c:r.1.c=t.c
 d:r.1.d=t.d
 st:r.2.st=σ.st
 mg:∀ y i,y≠t.d->r.2.mg y i=σ.mg y i
theorem AdMid.of{t t' u:Ad}{σ σ':Ab}(hd:t.done=false)(h:u.done=t'.done/\u.c=t'.c/\u.d=t'.d/\3<=u.next)(e:t'.done=t.done/\t'.c=t.c/\t'.d=t.d)(h1:σ'.st=σ.st)(h2:∀ y i,y≠t.d->σ'.mg y i=σ.mg y i):AdMid t σ (u,σ'):=
 ⟨h.1.trans (e.1.trans hd),h.2.2.2,h.2.1.trans e.2.1,h.2.2.1.trans e.2.2,h1,h2⟩
theorem ad_after{s:Sh}{t:Ad}{σ:Ab}(hd:t.done=false)(h3:3<=t.next):AdMid t σ (adA s t σ)\/adA s t σ=(t.fin 0,σ.stat t.d .done):=by
 have f:∀ (t':Ad) a b,3<=a->3<=b->(t'.turn s a b).done=t'.done/\(t'.turn s a b).c=t'.c/\(t'.turn s a b).d=t'.d/\3<=(t'.turn s a b).next:=fun t' a b h1 h2=>by obtain⟨k1,M,N,O⟩:=turn_keeps s t' a b;exact⟨k1,M,N,O h1 h2⟩
 have K:∀ {n:Int} (t':Ad),3<=n->t'.done=t.done->t'.c=t.c->t'.d=t.d->t'.next=n->t'.done=t.done/\t'.c=t.c/\t'.d=t.d/\3<=t'.next:=fun t' h H I J r=>⟨H,I,J,by omega⟩;by_cases e:t.next=3
 ·rw[ydj hd e];left;cases σ.pg t.at' with
  |body h=>exact .of hd (K (n:=4) _ (by decide) rfl rfl rfl rfl) ⟨rfl,rfl,rfl⟩ rfl (fun _ _ _=>rfl)
  |empty=>exact .of hd (f _ 3 6 (by decide) (by decide)) ⟨rfl,rfl,rfl⟩ rfl (fun _ _ _=>rfl)
  |held o=>exact .of hd (f _ 3 6 (by decide) (by decide)) ⟨rfl,rfl,rfl⟩ rfl (fun _ _ _=>rfl)
  |super k b=>exact .of hd (f _ 3 6 (by decide) (by decide)) ⟨rfl,rfl,rfl⟩ rfl (fun _ _ _=>rfl)
  |large n=>exact .of hd (f _ 3 6 (by decide) (by decide)) ⟨rfl,rfl,rfl⟩ rfl (fun _ _ _=>rfl)
 by_cases r:t.next=4
 ·rw[yd0 hd r];left;by_cases h:σ.pg t.pa= .held t.d
  ·rw[if_pos h];exact .of hd (K (n:=5) _ (by decide) rfl rfl rfl rfl) ⟨rfl,rfl,rfl⟩ rfl (fun _ _ _=>rfl)
  rw[if_neg h];exact .of hd (f _ 3 6 (by decide) (by decide)) ⟨rfl,rfl,rfl⟩ rfl (fun _ _ _=>rfl)
 by_cases D:t.next=5
 ·rw[ydy hd D];exact .inl (.of hd (f _ 3 6 (by decide) (by decide)) ⟨rfl,rfl,rfl⟩ rfl (fun _ _ _=>rfl))
 by_cases E:t.next=6
 ·rw[ydn hd E];left;by_cases h:σ.pg t.at'= .held t.d
  ·rw[if_pos h];exact .of hd (K (n:=7) _ (by decide) rfl rfl rfl rfl) ⟨rfl,rfl,rfl⟩ rfl (fun _ _ _=>rfl)
  rw[if_neg h];exact .of hd (f _ 6 9 (by decide) (by decide)) ⟨rfl,rfl,rfl⟩ rfl (fun _ _ _=>rfl)
 by_cases z:t.next=7
 ·rw[yd2 hd z];left;by_cases h:t.i+1=16
  ·rw[if_pos h];exact .of hd (K (n:=8) _ (by decide) rfl rfl rfl rfl) ⟨rfl,rfl,rfl⟩ rfl (fun _ _ _=>rfl)
  rw[if_neg h];exact .of hd (K (n:=7) _ (by decide) rfl rfl rfl z) ⟨rfl,rfl,rfl⟩ rfl (fun _ _ _=>rfl)
 by_cases G:t.next=8
 ·rw[yei hd G];exact .inl (.of hd (f _ 6 9 (by decide) (by decide)) ⟨rfl,rfl,rfl⟩ rfl (fun _ _ _=>rfl))
 by_cases C:t.next=9
 ·rw[yeh hd C];left;have q:∀ y i,y≠t.d->(σ.mag t.d t.i .none).mg y i=σ.mg y i:=fun y i L=>zv2 _ (fun h=>L h.1) _;by_cases h:t.i+1=s.m
  ·rw[if_pos h];exact .of hd (K (n:=10) _ (by decide) rfl rfl rfl rfl) ⟨rfl,rfl,rfl⟩ rfl q
  rw[if_neg h];exact .of hd (K (n:=9) _ (by decide) rfl rfl rfl C) ⟨rfl,rfl,rfl⟩ rfl q
 by_cases j:t.next=10
 ·rw[z9b hd j];left;cases σ.pg t.at' with
  |super k b=>exact .of hd (K (n:=11) _ (by decide) rfl rfl rfl rfl) ⟨rfl,rfl,rfl⟩ rfl (fun _ _ _=>rfl)
  |empty=>exact .of hd (f _ 10 13 (by decide) (by decide)) ⟨rfl,rfl,rfl⟩ rfl (fun _ _ _=>rfl)
  |held o=>exact .of hd (f _ 10 13 (by decide) (by decide)) ⟨rfl,rfl,rfl⟩ rfl (fun _ _ _=>rfl)
  |body h=>exact .of hd (f _ 10 13 (by decide) (by decide)) ⟨rfl,rfl,rfl⟩ rfl (fun _ _ _=>rfl)
  |large n=>exact .of hd (f _ 10 13 (by decide) (by decide)) ⟨rfl,rfl,rfl⟩ rfl (fun _ _ _=>rfl)
 by_cases l:t.next=11
 ·rw[z8z hd l];left;by_cases h:σ.sl t.at' t.i= .way t.d
  ·rw[if_pos h];exact .of hd (K (n:=12) _ (by decide) rfl rfl rfl rfl) ⟨rfl,rfl,rfl⟩ rfl (fun _ _ _=>rfl)
  rw[if_neg h];exact .of hd (slot_keeps s t) ⟨rfl,rfl,rfl⟩ rfl (fun _ _ _=>rfl)
 by_cases p:t.next=12
 ·rw[z9f hd p];exact .inl (.of hd (slot_keeps s t) ⟨rfl,rfl,rfl⟩ rfl (fun _ _ _=>rfl))
 right;unfold adA;rw[if_neg (by rw[hd];decide)];rw[if_neg (by omega)];rw[if_neg (by omega)];rw[if_neg (by omega)];rw[if_neg e];rw[if_neg r];rw[if_neg D];rw[if_neg E];rw[if_neg z];rw[if_neg G];rw[if_neg C];rw[if_neg j];rw[if_neg l];rw[if_neg p]
def TW.gone:TW->Prop
 | .dead=> True
 | .owned _=> True
 | _=> False
def AdPh (c x:Int) (v0:TW) (t:Ad) (σ:Ab):Prop:=t.done=false/\t.c=c/\t.d=x/\
 ((t.next=0/\σ.st x=v0)\/(t.next=1/\σ.st x=v0/\v0= .owned t.who/\t.was=v0.enc)\/(t.next=2/\σ.st x=v0/\v0.gone/\t.was=v0.enc)\/(3<=t.next/\v0.gone/\σ.st x= .owned c))
def AdEnd (x:Int) (v0:TW) (er:Int) (σ:Ab):Prop:=(v0.gone/\er=0/\σ.st x= .done)\/(¬ v0.gone/\er=5/\σ.st x=v0)
structure AdSide (s:Sh) (c x:Int) (st0:Int->TW) (σ σ':Ab):Prop where
 st:∀ y,y≠x->σ'.st y=σ.st y
 mg:∀ i,σ'.mg c i=σ.mg c i
theorem ad_alone{s:Sh}{c x:Int}{st0:Int->TW}{t:Ad}{σ:Ab}(b:x≠c)(j:∀ a,st0 x= .owned a->st0 a≠ .live)(hs:∀ y,y≠x->σ.st y=st0 y)(h:AdPh c x (st0 x) t σ):
  AdSide s c x st0 σ (adA s t σ).2/\(AdPh c x (st0 x) (adA s t σ).1 (adA s t σ).2\/((adA s t σ).1.done=true/\AdEnd x (st0 x) (adA s t σ).1.err (adA s t σ).2)):=by
 obtain⟨hd,hc,m,h0⟩:=h;subst m;rcases h0 with h0|h0|h0|h0
 ·rw[ya2 hd h0.1];refine⟨⟨fun _ _=>rfl,fun _=>rfl⟩,?_⟩;dsimp only;rw[h0.2];cases e:st0 t.d with
  |dead=>exact .inl ⟨hd,hc,rfl,.inr (.inr (.inl ⟨rfl,h0.2.trans e,trivial,rfl⟩))⟩
  |owned a=>exact .inl ⟨hd,hc,rfl,.inr (.inl ⟨rfl,h0.2.trans e,rfl,rfl⟩)⟩
  |unused=>exact .inr ⟨rfl,.inr ⟨id,rfl,h0.2.trans e⟩⟩
  |live=>exact .inr ⟨rfl,.inr ⟨id,rfl,h0.2.trans e⟩⟩
  |done=>exact .inr ⟨rfl,.inr ⟨id,rfl,h0.2.trans e⟩⟩
 ·obtain⟨h1,h2,h3,h4⟩:=h0;rw[yc1 hd h1];have l:σ.st t.who≠ .live:=by
   by_cases e:t.who=t.d
   ·rw[e,h2,h3];exact fun e=>by cases e
   rw[hs _ e];exact j _ h3
  rw[if_neg l];exact⟨⟨fun _ _=>rfl,fun _=>rfl⟩,.inl ⟨hd,hc,rfl,.inr (.inr (.inl ⟨rfl,h2,by rw[h3];trivial,h4⟩))⟩⟩
 ·obtain⟨h1,h2,h3,h4⟩:=h0;rw[yee hd h1,if_pos (by rw[h2];exact h4.symm)];refine⟨⟨fun y f=>z6r _ f _,fun _=>rfl⟩,.inl ⟨hd,hc,rfl,.inr (.inr (.inr ⟨Int.le_refl _,h3,?_⟩))⟩⟩;show up σ.st t.d (.owned t.c) t.d=_;rw[zp8,hc]
 obtain⟨h1,h2,h3⟩:=h0;rcases ad_after (s:=s) (σ:=σ) hd h1 with h|h
 ·refine⟨⟨fun y _=>by rw[h.st],fun i=>h.mg c i (Ne.symm b)⟩,.inl ⟨h.dn,h.c.trans hc,h.d,.inr (.inr (.inr ⟨h.nx,h2,by rw[h.st];exact h3⟩))⟩⟩
 rw[h];exact⟨⟨fun y f=>z6r _ f _,fun _=>rfl⟩,.inr ⟨rfl,.inl ⟨h2,rfl,zp8 _ _ _⟩⟩⟩
structure AdRun (s:Sh) (c x:Int) (σ0:Ab) (d:Wd):Prop where
 ex:∃ σ,WI s σ d/\(∀ y,y≠x->σ.st y=σ0.st y)/\(∀ i,σ.mg c i=σ0.mg c i)/\∃ k,d.kl c=some k/\((∃ t,k.job=some (.hei t)/\AdPh c x (σ0.st x) t σ)\/(k.job=none/\∃ l e,d.tr=l ++ [e]/\AdEnd x (σ0.st x) e.er σ))
section

variable {s:Sh} {d:Wd} {n:Nat} {c x:Int} {σ0:Ab}

theorem adrun_goS(hd:wdOk s d n)(z:x≠c)(J:∀ a,σ0.st x= .owned a->σ0.st a≠ .live)(h:AdRun s c x σ0 d):AdRun s c x σ0 (d.goS s c):=by
 obtain⟨σ,M,h1,h2,k,p,h3⟩:=h.ex;rcases h3 with⟨t,o,L⟩|⟨o,O⟩
 ·obtain⟨_,C,j⟩:=hd.kl _ _ p;rw[z5n p (by rw[o];exact fun e=>by cases e),z5q p j];obtain⟨D,_,N⟩:=zt5 M hd p o;have hi:c.toNat<d.l.length:=by rw[hd.len];omega
  obtain⟨E,f⟩:=ad_alone (s:=s) (st0:=σ0.st) z J h1 L;have e:k.step s d.m=(k.after ((Jb.hei t).step s k.c d.m).1,((Jb.hei t).step s k.c d.m).2,k.tells ((Jb.hei t).step s k.c d.m).1,0):=by unfold Kl.step;rw[o]
  rw[C,N]at e;have I:(Jb.hei t).zhf s c σ=(.hei (adA s t σ).1,(adA s t σ).2):=rfl;rw[I]at D e;dsimp only at D e;have q:(d.step s c k).1.kl c=some (k.after (.hei (adA s t σ).1)):=by unfold Wd.step;rw[e];dsimp only;rw[d.zdk j.1 hi,if_pos rfl]
  have r:(d.step s c k).1.tr=d.tr++k.tells (.hei (adA s t σ).1):=by unfold Wd.step;rw[e]
  refine⟨⟨_,D,fun y G=>(E.st y G).trans (h1 y G),fun i=>(E.mg i).trans (h2 i),_,q,?_⟩⟩;rcases f with f|⟨f,H⟩
  ·refine .inl ⟨_,?_,f⟩;unfold Kl.after;dsimp only;have b:(Jb.hei (adA s t σ).1).done=false:=f.1;rw[if_neg (by rw[b];decide)]
  have b:(Jb.hei (adA s t σ).1).done=true:=f;refine .inr ⟨?_,?_⟩
  ·unfold Kl.after;dsimp only;rw[if_pos b]
  rw[r];unfold Kl.tells;rw[if_pos b];exact⟨_,_,(by rw[<-List.append_assoc,<- List.append_assoc]),H⟩
 rw[zw5 p o];exact h
theorem adrun_goN(hd:wdOk s d n)(b:x≠c)(f:∀ a,σ0.st x= .owned a->σ0.st a≠ .live)(h:AdRun s c x σ0 d)(i:Nat):AdRun s c x σ0 (d.goN s c i):=by
 induction i with
 |zero=>exact h
 |succ i j=>exact adrun_goS (zz6 hd i) b f j
theorem adrun_ask(hd:wdOk s d n)(H:Rest d c)(J:0<=x/\x<s.c)(q:x≠c)(I:WI s σ0 d):AdRun s c x σ0 (d.act s ⟨2,c,4,x,0,0⟩).1:=by
 obtain⟨k,r,G⟩:=H;obtain⟨_,f,o⟩:=hd.kl _ _ r;have hi:c.toNat<d.l.length:=by rw[hd.len];omega
 have E:=hd.fi.may;have D:=zwb I hd ⟨2,c,4,x,0,0⟩ (k:=k) r;unfold Wd.act;rw[if_neg (by unfold Ch.bad;dsimp only;omega),if_neg (show ¬ (2:Int)=1 by decide)];dsimp only;rw[r];dsimp only;rw[if_neg (show ¬ (2:Int)=3 by decide),if_pos rfl];have z:k.rests=true:=by unfold Kl.rests;rw[G];rfl
 have i:zae s.p s.c s.m x=x:=by unfold zae;rw[if_pos ⟨E,zbc.2 (by omega)⟩]
 have C:zae s.p s.c s.m c=c:=by unfold zae;rw[if_pos ⟨E,zbc.2 (by omega)⟩]
 have t:ziu s k.c 4 x 0=false:=by
  unfold ziu zdl zk8;rw[i,f];have h1:decide (x<0)=false:=decide_eq_false (by omega);have h2:(x==c)=false:=by rw[beq_eq_false_iff_ne];exact q
  rw[h1,h2];rfl
 have y:Ch.op (⟨2,c,4,x,0,0⟩:Ch)=⟨4,x,0⟩:=rfl;have b:k.invoke s ⟨4,x,0⟩=({k with op:=⟨4,x,0⟩,told:=false,steps:=0,job:=some (zgl s k.c k.first 4 x 0)}, [zbh k.c ⟨4,x,0⟩],0):=by unfold Kl.invoke;rw[if_neg (by rw[z];decide),if_neg (show ¬ ((4:Int)<1\/(4:Int)<4) by decide)];rw[if_neg (show ¬ ziu s k.c 4 x 0=true by rw[t];decide)]
 have j:(d.ask s ⟨2,c,4,x,0,0⟩ k).1.kl c=some {k with op:=⟨4,x,0⟩,told:=false,steps:=0,job:=some (zgl s k.c k.first 4 x 0)}:=by unfold Wd.ask;dsimp only;rw[y,b,d.zdk o.1 hi,if_pos rfl]
 refine⟨⟨σ0,D,fun _ _=>rfl,fun _=>rfl,_,j,.inl ⟨zix s c x,?_,?_⟩⟩⟩
 ·dsimp only;rw[f];rfl
 have:zix s c x=⟨c,x,0,0,0,0,0,0,0,0,0,false⟩:=by unfold zix;dsimp only;rw[if_neg (by rw[i,C];intro h;rcases h with h|h|h<;>omega)]
 rw[this];exact⟨rfl,rfl,rfl,.inl ⟨rfl,rfl⟩⟩
theorem idle_owner(f:WI s σ0 d)(h:∀ y k,d.kl y=some k->k.job=none):∀ a,σ0.st x= .owned a->σ0.st a≠ .live:=fun a b e=>by
 obtain⟨k,t,h1,h2,_⟩:=(f.ow x a b).2 e
 rw[h a k h1]at h2;cases h2
theorem rest_all(j:WI s σ0 d)(i:Rest d c)(f:∀ y,y≠c->σ0.st y≠ .live):∀ y k,d.kl y=some k->k.job=none:=fun y k b=>by
 by_cases e:y=c
 ·obtain⟨l,h1,h2⟩:=i
  rw[e,h1]at b;injection b with b;rw[<-b];exact h2
 ·exact absurd (j.li y k b).1 (f y e)
theorem adopt_alone(hd:wdOk s d n)(m:Rest d c)(I:0<=x/\x<s.c)(j:x≠c)(p:WI s σ0 d)(hi:∀ y k,d.kl y=some k->k.job=none):
  ∃ σ,WI s σ (askW s d c ⟨4,x,0⟩)/\(∀ y,y≠x->σ.st y=σ0.st y)/\(∀ i,σ.mg c i=σ0.mg c i)/\AdEnd x (σ0.st x) (ygv (askW s d c ⟨4,x,0⟩)) σ:=by
 have H:=idle_owner (x:=x) p hi;have h1:=adrun_goN (zeo hd ⟨2,c,4,x,0,0⟩) j H (adrun_ask hd m I j p) (z5k s);obtain⟨k,G,E⟩:=rest_ask (o:=⟨4,x,0⟩) hd m ⟨show (1:Int)<=4 by decide,Int.le_refl _⟩;obtain⟨σ,q,r,z,J,b,C⟩:=h1.ex;have b:(askW s d c ⟨4,x,0⟩).kl c=some J:=b;rw[G]at b;injection b with b;subst b;rcases C with⟨t,f,_⟩|⟨_,l,e,f,D⟩
 ·rw[E]at f;cases f
 have f:(askW s d c ⟨4,x,0⟩).tr=l++[e]:=f;refine⟨σ,q,r,z,?_⟩;have:ygv (askW s d c ⟨4,x,0⟩)=e.er:=by unfold ygv;rw[f];simp
 rw[this];exact D
end

end

section

variable {s:Sh} {d:Wd} {n:Nat}

theorem ai_why(h:AI s d n):(jdOf s d).why=0:=by
 obtain⟨_,_,_,b⟩:=h;exact b.why
end

end Go.Proofs.YtedcnffebdpmmaaGreat
