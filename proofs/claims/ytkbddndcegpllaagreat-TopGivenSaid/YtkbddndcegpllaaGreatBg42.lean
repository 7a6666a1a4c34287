/- Texts bound together: WGet WBeg WAwk WWho QuiP KilP FreP GivP. -/
import Derived.Test.YtkbddndcegpllaaGreatBg41

set_option linter.all false
set_option maxHeartbeats 4000000
set_option maxRecDepth 100000
namespace Go.Proofs.YtkbddndcegpllaaGreat

section

open Go.RowKit

attribute [local go_sem ↓] Go.wp_at_zero Go.wp_at_succ

theorem zlg{P:Program}{w:World}{a:Addr}{m:Mode}(k:FloatKind)(x:Nat):(store a (.float k x) m).run P w=stored P w a (.float k x) m:=run_store P w a _ m rfl
attribute [local go_sem] zlg

theorem zru(xs:List Ev):∀ u ∈ xs.flatMap (fun e=>e.cells.toList),u.oneCell'=true:=fun u hu=>by
 obtain⟨e,_,b⟩:=List.mem_flatMap.1 hu
 simp only[Ev.cells,List.mem_cons,List.not_mem_nil,or_false]at b
 rcases b with rfl|rfl|rfl|rfl|rfl|rfl|rfl|rfl<;>rfl
theorem zvh(xs:List Ev)(v:Value)(w:World)(I:RdS w 8 v xs.length (xs.flatMap fun e=>e.cells.toList))(H:xs.length<=100000000):
  Calls Tryz.prog 84 #[v] w fun e w'=>∃ v',e= .returned v'/\Below w.heap.size w w'/\w'.ownsRow w.heap.size 66 8 v' xs.length (xs.flatMap fun e=>e.cells.toList):=by
 obtain⟨ao,cap,rfl,G,J,N,p⟩:=id I;have o:∀ W:World,(binOp .eql 63 (.slice ao xs.length cap) (.slice none 0 0)).run Tryz.prog W= .ok (.bool ao.isNone) W:=fun W=>Lib.run_eql_slice_nil W _ _ ao _ _ _ _ Tryz.underlying63;rcases ao with _|ad
 ·have L:xs= []:=by
   rcases xs with _|⟨b,l⟩
   ·rfl
   obtain⟨_,_,h,_⟩:=p (by simp);cases h
  subst L;replace o:∀ W:World,(binOp .eql 63 (.slice none 0 cap) (.slice none 0 0)).run Tryz.prog W= .ok (.bool true) W:=o;show Calls Tryz.prog 84 #[.slice none 0 cap] w _;go_in;go_wp2;go_ret;exact⟨_,rfl,Below.refl _ _,⟨rfl,.inl ⟨rfl,rfl⟩⟩⟩
 obtain⟨M,r,z,C,D⟩:=info_parts zdb;have m:(w.alloc (.cells #[] 66)).ownsRow w.heap.size 66 8 (.slice (some ⟨w.heap.size,0,.none⟩) 0 0) 0 []:=World.ownsRow_lit w #[] 0 lr (Nat.zero_le _) rfl;have y:RdS (w.alloc (.cells #[] 66)) 8 (.slice (some ad) xs.length cap) xs.length (xs.flatMap fun e=>e.cells.toList):=RdS.alloc I _;go_in;go_wp2_with (refine zay rfl (.tmp 5) (.tmp 6) 63 rfl w.heap.size 66 M _ 8 64 Tryz.underlying63 r z C D rfl (by omega) _ 0 [] rfl m _ xs.length _ rfl y (zru xs) (by simp only[maxLen];omega) (by omega) (by simp) ?_;intro O R i j E;have q:=zaw ((Below.refl w.heap.size w).alloc lr _) m (by simp) j);go_ret;rw[Nat.zero_add,List.nil_append]at i;exact⟨_,rfl,q,i⟩
theorem zko{B:Nat}{F:Nat->Prop}{W:World}{g:Nat}{s:Sh}{d:Wd}{x:Wx}(h:WdP B F W g s d x)(l:d.tr.length<=100000000):
  Calls Tryz.prog 33 #[.pointer (some ⟨g,0,.none⟩)] W fun e w'=>∃ v',e= .returned v'/\Below W.heap.size W w'/\w'.ownsRow W.heap.size 66 8 v' d.tr.length (d.tr.flatMap fun e=>e.cells.toList):=by
 have j:∀ (p:Nat) (W:World),(binOp .eql 27 (.pointer (some ⟨p,0,.none⟩)) (.pointer none)).run Tryz.prog W= .ok (.bool false) W:=fun p W=>by kernel_rfl
 have c0:=ce x.tv (h.top.cell 5);have hc:=hd' (zvh d.tr x.tv W (RdS.zew h.tr) l);clear h;generalize x.tv=v at *;go_in;go_wp2_with (go_at_call 84;refine hc.out.mono ?_;rintro e o ⟨m,rfl,b,i⟩);go_ret;exact⟨_,rfl,b,i⟩
theorem ycw{B:Nat}{F:Nat->Prop}{W:World}{g:Nat}{s:Sh}{d:Wd}{x:Wx}(h:WdP B F W g s d x):
  Calls Tryz.prog 21 #[.pointer (some ⟨g,0,.none⟩)] W fun e w'=>∃ v',e= .returned v'/\Below W.heap.size W w'/\w'.ownsRow W.heap.size 137 1 v' d.m.ws.length (d.m.ws.map (Value.int .u64)):=by
 have l:∀ (p:Nat) (W:World),(binOp .eql 27 (.pointer (some ⟨p,0,.none⟩)) (.pointer none)).run Tryz.prog W= .ok (.bool false) W:=fun p W=>by kernel_rfl
 have c0:=ce (.pointer (some ⟨x.p,0,.none⟩)) (h.top.cell 3);have hc:=hd' (z8c x.p x.b d.m W h.wds);have lg:=h.top.lt;clear h;go_in;go_wp2_with (go_at_call 69;refine hc.out.mono ?_;rintro e q ⟨o,rfl,i,j⟩);go_ret;exact⟨_,rfl,i,j⟩
theorem zva{B:Nat}{F:Nat->Prop}{W:World}{g:Nat}{s:Sh}{d:Wd}{x:Wx}(h:WdP B F W g s d x)(c:Int)(hc:0<=c/\c.toNat<d.l.length)(r:d.l.length<=100):
  Calls Tryz.prog 31 #[.pointer (some ⟨g,0,.none⟩),.int .i64 c] W fun e w'=>e= .returned (ptrK (d.kl c) (x.qs c.toNat))/\Below W.heap.size W w':=by
 have b:∀ (p:Nat) (W:World),(binOp .eql 27 (.pointer (some ⟨p,0,.none⟩)) (.pointer none)).run Tryz.prog W= .ok (.bool false) W:=fun p W=>by kernel_rfl
 have i:=ce (.slice (some ⟨x.lb,0,.none⟩) d.l.length d.l.length) (h.top.cell 4);have lg:=h.top.lt;have C:=h.ptr hc.1 hc.2;have y:=h.lst.lt;have j:=hc.1;have m:c<(d.l.length:Int):=by omega
 have o:¬ c<0:=by omega
 have q:¬ (d.l.length:Int)<=c:=by omega
 clear h hc;generalize ptrK (d.kl c) (x.qs c.toNat)=z at *;go_in;go_wp2_with fail;go_returns;exact⟨rfl,by go_grown⟩
theorem znm(c:Ch)(W:World):Calls Tryz.prog 18 #[.agg c.cells.toArray] W fun e w'=>e= .returned (.agg c.cells.toArray)/\Below W.heap.size W w':=by
 obtain⟨l,j,m,b,cn,i⟩:=c;show Calls Tryz.prog 18 #[.agg #[.int .i64 l,.int .i64 j,.int .i64 m,.int .i64 b,.int .i64 cn,.float .f64 i]] W fun e w'=>e= .returned (.agg #[.int .i64 l,.int .i64 j,.int .i64 m,.int .i64 b,.int .i64 cn,.float .f64 i])/\Below W.heap.size W w';go_in;go_wp2_with fail;have o:(W.alloc (.cells #[.int .i64 l,.int .i64 j,.int .i64 m,.int .i64 b,.int .i64 cn,.float .f64 i] 35)).heap.size=W.heap.size+1:=by simp
 have t:zaa ((W.alloc (.cells #[.int .i64 l,.int .i64 j,.int .i64 m,.int .i64 b,.int .i64 cn,.float .f64 i] 35)).alloc (.cells #[.int .i64 l,.int .i64 j,.int .i64 m,.int .i64 b,.int .i64 cn,.float .f64 i] 38)) (W.heap.size+1) #[.int .i64 l,.int .i64 j,.int .i64 m,.int .i64 b,.int .i64 cn,.float .f64 i] 38:=by have h:=heap_alloc_new (W.alloc (.cells #[.int .i64 l,.int .i64 j,.int .i64 m,.int .i64 b,.int .i64 cn,.float .f64 i] 35)) (.cells #[.int .i64 l,.int .i64 j,.int .i64 m,.int .i64 b,.int .i64 cn,.float .f64 i] 38);rw[o]at h;exact h
 have hb:Below W.heap.size W ((W.alloc (.cells #[.int .i64 l,.int .i64 j,.int .i64 m,.int .i64 b,.int .i64 cn,.float .f64 i] 35)).alloc (.cells #[.int .i64 l,.int .i64 j,.int .i64 m,.int .i64 b,.int .i64 cn,.float .f64 i] 38)):=by go_grown
 generalize (W.alloc (.cells #[.int .i64 l,.int .i64 j,.int .i64 m,.int .i64 b,.int .i64 cn,.float .f64 i] 35)).alloc (.cells #[.int .i64 l,.int .i64 j,.int .i64 m,.int .i64 b,.int .i64 cn,.float .f64 i] 38)=X at *;generalize W.heap.size+1=H at *;obtain⟨r0,r1,p,q,r⟩:=ci5 l j m b cn t.cell;have y:=ce (.float .f64 i) (t.cell 5);exact bodyPost_ret (v:= .agg #[.int .i64 l,.int .i64 j,.int .i64 m,.int .i64 b,.int .i64 cn,.float .f64 i]) (by simp[results,Tryz.results18,go_sem,r0,r1,p,q,r,y]) rfl ⟨rfl,hb⟩
end

section

open Go.RowKit

attribute [local go_sem ↓] Go.wp_at_zero Go.wp_at_succ

theorem ydu:(Tryz.prog.info? 348).map (fun i=>(i.zero,i.size,i.bytes))=some (some (.pointer none),1,8):=by kernel_rfl
theorem z0w(n:Nat)(l:n<=100):∀ u:World,(Instr.makeSlice 165 (.int .i64 (n:Int)) (.int .i64 (n:Int))).run Tryz.prog u= .ok (.slice (some ⟨u.heap.size,0,.none⟩) n n) (u.alloc (.cells (madeCells #[.pointer none] n) 348)):=fun u=>by
 obtain⟨j,hi,b,f,i⟩:=info_parts ydu
 have h:=run_make (P:=Tryz.prog) u 165 348 j (.pointer none) Tryz.underlying165 hi b .i64 .i64 (n:Int) (n:Int) (by omega) (Int.le_refl _) (by rw[i];omega) (by omega)
 rw[Int.toNat_natCast]at h
 simpa[f,Value.cells] using h
theorem z0l(n:Nat)(l:n<=2000)(w:World):
  Calls Tryz.prog 106 #[.int .i64 (n:Int)] w fun e w'=>(∃ p,e= .returned (.pointer (some ⟨p,0,.none⟩)))/\Below w.heap.size w w':=by
 have b:=zv8 n (by omega);have i:decide ((n:Int)<0)=false:=decide_eq_false (by omega);have j:decide ((2000:Int)<(n:Int))=false:=decide_eq_false (by omega);go_in;go_wp2_with fail;go_returns;exact⟨⟨_,rfl⟩,by go_grown⟩
theorem ybd(s:Sh)(W:World)(G:mayB s.p s.c s.m=true):
  Calls Tryz.prog 55 #[.agg #[.int .i64 s.p,.int .i64 s.c,.int .i64 s.m]] W fun e w'=>Below W.heap.size W w'/\∃ g,e= .returned (.tuple #[.pointer (some ⟨g,0,.none⟩),.int .i64 0]):=by
 have j:=fun Y=>refMay_any s.p s.c s.m Y;rw[G]at j;have hb:=zar.1 G;have V:=(zoy G).2;have l:=fun Y=>zv0 s Y;obtain⟨sp,S,b⟩:=s;dsimp only at *;obtain⟨n,rfl⟩:∃ n:Nat,S=(n:Int):=⟨S.toNat,by omega⟩;obtain⟨N,R,y⟩:∃ N:Nat,zb6 sp (n:Int) b=(N:Int)/\N<=2000:=⟨(zb6 sp (n:Int) b).toNat,by omega,by omega⟩;rw[R]at l;have o:=fun Y=>z0l N y Y;have b0:=z0w n (by omega);replace j:=hd' j;replace l:=hd' l;replace o:=hd' o;have b1:(n:Int)<=12:=by omega
 have J:=heap_alloc_new W (.cells #[.int .i64 sp,.int .i64 (n:Int),.int .i64 b] 23);have t0:zaa (W.alloc (.cells #[.int .i64 sp,.int .i64 (n:Int),.int .i64 b] 23)) W.heap.size #[.int .i64 sp,.int .i64 (n:Int),.int .i64 b] 23:=J;have t1:=t0.alloc (.cells #[.int .i64 sp,.int .i64 (n:Int),.int .i64 b] 23);have z:Below W.heap.size W ((W.alloc (.cells #[.int .i64 sp,.int .i64 (n:Int),.int .i64 b] 23)).alloc (.cells #[.int .i64 sp,.int .i64 (n:Int),.int .i64 b] 23)):=by go_grown
 clear G hb V R y J t0;go_in;go_upto_region 3 with(first|(go_at_call 28;(with_reducible refine(j.out _).mono ?_);rintro r w1 ⟨rfl,L⟩;obtain rfl:=L.symm));generalize (W.alloc (.cells #[.int .i64 sp,.int .i64 (n:Int),.int .i64 b] 23)).alloc (.cells #[.int .i64 sp,.int .i64 (n:Int),.int .i64 b] 23)=X at *;obtain⟨H,J,q⟩:=hidv W.heap.size;rw[<-q]at t1 ⊢;clear q;have lH:=t1.lt;have i:∀ Y,zaa Y H #[.int .i64 sp,.int .i64 (n:Int),.int .i64 b] 23->Y.cell? ⟨H,0,.none⟩=some (.int .i64 sp)/\Y.cell? ⟨H,1,.none⟩=some (.int .i64 (n:Int))/\Y.cell? ⟨H,2,.none⟩=some (.int .i64 b):=fun Y h=>⟨h.cell 0,h.cell 1,h.cell 2⟩;replace i:=hd' i
 go_region_held3 (fun Y=>Y.cell? ⟨H,0,.none⟩=some (.int .i64 sp)/\Y.cell? ⟨H,1,.none⟩=some (.int .i64 (n:Int))/\Y.cell? ⟨H,2,.none⟩=some (.int .i64 b))
  (first|exact i.out _ t1.drew|exact i.out _ (t1.drew.alloc _)|exact i.out _ ((M.alloc _).alloc _)|exact i.out _ (M.alloc _)|exact i.out _ M|exact i.out _ (T.alloc _)|exact i.out _ T)
  (first|(go_at_call 92;(with_reducible refine(l.out _).mono ?_);rintro r w4 ⟨rfl,C⟩;have E:Below X.heap.size X w4:=(by first|exact zab br.drew C|exact zab (br.drew.alloc lr _) C);have T:=t1.below E)|(go_at_call 106;(with_reducible refine(o.out _).mono ?_);rintro r w5 ⟨⟨p,rfl⟩,D⟩;have I:Below X.heap.size X w5:=(by first|exact zab E D|exact zab (E.alloc E.size _) D);have M:=t1.below I))
 all_goals have Z:=z.size;have U:=I.size;have O:=zab z I;go_wp2_with fail;go_returns;exact⟨by first|exact(O.alloc (by omega) _)|exact((O.alloc (by omega) _).alloc (by simp;omega) _),_,rfl⟩
theorem yez(s:Sh)(W:World)(l:¬ mayB s.p s.c s.m=true):
  Calls Tryz.prog 55 #[.agg #[.int .i64 s.p,.int .i64 s.c,.int .i64 s.m]] W fun e w'=>Below W.heap.size W w'/\e= .returned (.tuple #[.pointer none,.int .i64 1]):=by
 have b:=fun Y=>refMay_any s.p s.c s.m Y;have i:mayB s.p s.c s.m=false:=by simpa using l
 rw[i]at b;obtain⟨sp,o,q⟩:=s;dsimp only at *;replace b:=hd' b;clear l i;go_in;go_wp2_with (first|(go_at_call 28;(with_reducible refine(b.out _).mono ?_);rintro r t ⟨rfl,j⟩;obtain rfl:=j.symm));go_returns;exact⟨by go_grown,rfl⟩
theorem znk(s:Sh)(W:World)(C:mayB s.p s.c s.m=true):
  Calls Tryz.prog 16 #[.agg #[.int .i64 s.p,.int .i64 s.c,.int .i64 s.m]] W fun e w'=>Below W.heap.size W w'/\∃ g v x,e= .returned (.tuple #[.pointer (some ⟨g,0,.none⟩),.pointer (some ⟨v,0,.none⟩)])/\WdP W.heap.size (fun i=>W.heap.size<=i/\i<w'.heap.size) w' g s (zde s) x:=by
 have q:=fun Y=>zzx s Y C;have y:=fun Y=>ybd s Y C;have E:∀ (p:Nat) (W:World),(binOp .eql 27 (.pointer (some ⟨p,0,.none⟩)) (.pointer none)).run Tryz.prog W= .ok (.bool false) W:=fun p W=>by kernel_rfl
 have z:=(Below.refl W.heap.size W).alloc lr (.cells #[.int .i64 s.p,.int .i64 s.c,.int .i64 s.m] 23);have t0:zaa (W.alloc (.cells #[.int .i64 s.p,.int .i64 s.c,.int .i64 s.m] 23)) W.heap.size #[.int .i64 s.p,.int .i64 s.c,.int .i64 s.m] 23:=heap_alloc_new _ _;replace q:=hd' q;replace y:=hd' y;clear C;go_in;go_upto_region 1 with fail;have o:(W.alloc (.cells #[.int .i64 s.p,.int .i64 s.c,.int .i64 s.m] 23)).heap.size=W.heap.size+1:=by simp
 generalize W.alloc (.cells #[.int .i64 s.p,.int .i64 s.c,.int .i64 s.m] 23)=X at *;obtain⟨H,N,b⟩:=hidv W.heap.size;rw[<-b]at t0 o ⊢;obtain⟨c0,c1,c2⟩:=ci3 s.p s.c s.m t0.cell;replace o:=hd' o;replace b:=hd' b;go_wp2_with (first|(go_at_call 54;(with_reducible refine(q.out _).mono ?_);rintro r O ⟨j,g,x,rfl,D⟩;have t1:=t0.below j;have G:=ci s.p (t1.cell 0);have d1:=ci s.c (t1.cell 1);have d2:=ci s.m (t1.cell 2))|(go_at_call 55;(with_reducible refine(y.out _).mono ?_);rintro r R ⟨l,v,rfl⟩));go_returns;have I:=j.size;have J:=l.size;have L:=o.out;have M:=b.out;exact⟨zab (zab z j) l,g,v,x,rfl,((D.below l).lower (by omega)).weak (fun i hi=>⟨by omega,by omega⟩) (fun i hi=>hi)⟩
theorem yfo(s:Sh)(W:World)(y:¬ mayB s.p s.c s.m=true):
  Calls Tryz.prog 16 #[.agg #[.int .i64 s.p,.int .i64 s.c,.int .i64 s.m]] W fun e w'=>Below W.heap.size W w'/\e= .returned (.tuple #[.pointer none,.pointer none]):=by
 have j:=fun Y=>z8i s Y y;have l:=fun Y=>yez s Y y;have o:=(Below.refl W.heap.size W).alloc lr (.cells #[.int .i64 s.p,.int .i64 s.c,.int .i64 s.m] 23);have t0:zaa (W.alloc (.cells #[.int .i64 s.p,.int .i64 s.c,.int .i64 s.m] 23)) W.heap.size #[.int .i64 s.p,.int .i64 s.c,.int .i64 s.m] 23:=heap_alloc_new _ _;have z:∀ W:World,(binOp .eql 27 (.pointer none) (.pointer none)).run Tryz.prog W= .ok (.bool true) W:=fun W=>by kernel_rfl
 replace j:=hd' j;replace l:=hd' l;clear y;go_in;go_upto_region 1 with fail;generalize W.alloc (.cells #[.int .i64 s.p,.int .i64 s.c,.int .i64 s.m] 23)=X at *;obtain⟨H,D,b⟩:=hidv W.heap.size;rw[<-b]at t0 ⊢;clear b;obtain⟨c0,c1,c2⟩:=ci3 s.p s.c s.m t0.cell;go_wp2_with (first|(go_at_call 54;(with_reducible refine(j.out _).mono ?_);rintro r E ⟨i,rfl⟩;have t1:=t0.below i;have C:=ci s.p (t1.cell 0);have d1:=ci s.c (t1.cell 1);have d2:=ci s.m (t1.cell 2))|(go_at_call 55;(with_reducible refine(l.out _).mono ?_);rintro r G ⟨q,rfl⟩));go_returns;exact⟨zab (zab o i) q,rfl⟩
theorem z1o:(Tryz.prog.info? 3).map (fun i=>(i.zero,i.size,i.bytes))=some (some (.int .i64 0),1,8):=by kernel_rfl
def whoB (P:Kl->Bool) (l:List (Option Kl)) (c:Nat):Bool:=match l.getD c none with
 | some k=> P k
 | none=> false
def whoL (P:Kl->Bool) (l:List (Option Kl)) (n:Nat):List Int:=((List.range n).filter (whoB P l)).map (fun c:Nat=> (c:Int))
theorem ztj(P:Kl->Bool)(l:List (Option Kl))(n:Nat):whoL P l (n+1)=whoL P l n++if whoB P l n=true then [(n:Int)] else []:=by
 unfold whoL;rw[List.range_succ,List.filter_append,List.map_append];congr 1;by_cases h:whoB P l n=true
 ·rw[if_pos h];simp[h]
 rw[if_neg h];simp[h]
theorem zwg(P:Kl->Bool)(l:List (Option Kl))(n:Nat):(whoL P l n).length<=n:=by
 unfold whoL;rw[List.length_map];have h:=List.length_filter_le (whoB P l) (List.range n);rw[List.length_range]at h;exact h
section

variable {B:Nat} {F:Nat->Prop} {W:World} {g:Nat} {s:Sh} {d:Wd} {x:Wx}

theorem z06(h:WdP B F W g s d x)(hn:d.l.length<=100)(P:Kl->Bool)
  (O:∀ c k X,d.l.getD c none=some k->Below W.heap.size W X->Calls Tryz.prog 103 #[.pointer (some ⟨x.qs c,0,.none⟩)] X fun e w'=>e= .returned (.bool (P k))/\Below X.heap.size X w'):
  Calls Tryz.prog 70 #[.pointer (some ⟨g,0,.none⟩),.func (.func 103) #[] #[]] W fun e w'=>∃ v,e= .returned v/\Below W.heap.size W w'/\w'.ownsRow W.heap.size 3 1 v (whoL P d.l d.l.length).length ((whoL P d.l d.l.length).map (Value.int .i64)):=by
 have Z:∀ (p:Nat) (W:World),(binOp .eql 27 (.pointer (some ⟨p,0,.none⟩)) (.pointer none)).run Tryz.prog W= .ok (.bool false) W:=fun p W=>by kernel_rfl
 have b0:∀ (W:World),(binOp .neq 61 (.pointer none) (.pointer none)).run Tryz.prog W= .ok (.bool false) W:=fun W=>by kernel_rfl
 have b1:∀ (p:Nat) (W:World),(binOp .neq 61 (.pointer (some ⟨p,0,.none⟩)) (.pointer none)).run Tryz.prog W= .ok (.bool true) W:=fun p W=>by kernel_rfl
 have c4:=ce (.slice (some ⟨x.lb,0,.none⟩) d.l.length d.l.length) (h.top.cell 4);have lg:=h.top.lt;have i:∀ c X,c<d.l.length->Below W.heap.size W X->X.cell? ⟨x.lb,c,.none⟩=some (ptrK (d.l.getD c none) (x.qs c))/\x.lb<X.heap.size:=fun c X hc hb=>⟨((h.below hb).lst.cell c).trans (by simpa using(h.below hb).pe c hc),(h.below hb).lst.lt⟩;obtain⟨i0,R,S,T,U⟩:=info_parts z1o;have H:=fun c=>ztj P d.l c;have E:=fun c=>zwg P d.l c
 have y:∀ c o,d.l.getD c none=o->whoB P d.l c=match o with
  |some k=>P k
  |none=>false:=fun c o e=>by subst e;rfl
 generalize V:d.l.length=n at *;replace O:=hd' O;replace i:=hd' i;replace H:=hd' H;replace E:=hd' E;replace y:=hd' y;replace V:=hd' V;clear h;go_in;go_wp2;go_loopw [5,15] (fun v5 I wr=>∃ c:Nat,c<=n/\I= .int .i64 c/\Below W.heap.size W wr/\wr.ownsRow W.heap.size 3 1 v5 (whoL P d.l c).length ((whoL P d.l c).map (Value.int .i64))) (fun _ I _=>n-(intOf I).toNat);case atStart=>exact⟨0,Nat.zero_le _,rfl,Below.refl _ _,⟨by simp[whoL],.inl ⟨rfl,by simp[whoL]⟩⟩⟩
 case round=>
  obtain⟨c,b5,rfl,b,j⟩:=hrel;have b3:(0:Int)<=(c:Int):=by omega
  by_cases hc:c<n
  ·have b4:(c:Int)<(n:Int):=by omega
   have b9:IntKind.i64.wrap ((c:Int)+1)=(c:Int)+1:=IntWalk.i64_in _ ⟨by omega,by omega⟩;have z:=i.out c wr hc b;have J:=z.1;have z2:=z.2;have hs:=H.out c;have b6:=E.out c;cases hk:d.l.getD c none with
   |none=>have q:whoB P d.l c=false:=y.out c _ hk;rw[hk]at J;rw[if_neg (by rw[q];decide),List.append_nil]at hs;replace J:wr.cell? ⟨x.lb,c,.none⟩=some (.pointer none):=J;replace hs:=hd' hs;clear q hk z;go_wp2_with fail;exact⟨⟨c+1,by omega,by go_num,b,by rw[hs.out];exact j⟩,by simp only[intOf];omega⟩
   |some k=>
    have q:whoB P d.l c=P k:=y.out c _ hk
    rw[hk]at J
    replace J:wr.cell? ⟨x.lb,c,.none⟩=some (.pointer (some ⟨x.qs c,0,.none⟩)):=J
    have M:=O.out c k wr hk b
    have b2:=b.size
    rw[q]at hs
    generalize P k=pk at *
    generalize whoL P d.l c=L at *
    replace M:=hd' M
    clear q hk z
    cases pk with
    |false=>
     rw[if_neg (by decide),List.append_nil]at hs
     replace hs:=hd' hs
     go_wp2_with (first|(go_at_call 103;(with_reducible refine M.out.mono ?_);rintro r w6 ⟨rfl,m⟩))
     have N:=zab b m
     exact⟨⟨c+1,by omega,by go_num,N,by rw[hs.out];exact zic j m⟩,by simp only[intOf];omega⟩
    |true=>
     rw[if_pos rfl]at hs
     replace hs:=hd' hs
     go_wp2_with (first|(go_at_call 103;(with_reducible refine M.out.mono ?_);rintro r w6 ⟨rfl,m⟩;have N:=zab b m;have b8:=m.size;have D:=zic j m)|(refine zay rfl (.tmp 27) (.tmp 29) 49 rfl W.heap.size 3 i0 _ 1 8 Tryz.underlying49 R S T U rfl (by omega) _ L.length _ rfl (D.alloc _) _ 1 [.int .i64 c] rfl (RdS.new (cs:= #[.int .i64 c]) (t:=3) (sz:=1) (n:=1) (heap_alloc_new w6 _) rfl (by omega)) (by intro u hu;simp at hu;subst hu;rfl) (by simp only[maxLen];omega) (by omega) (by simp;omega) ?_;intro v7 w7 G C Y;have h7:=zaw (N.alloc (by omega) _) (D.alloc _) (by simp;omega) C))
     exact⟨⟨c+1,by omega,by go_num,h7,by rw[hs.out,List.length_append,List.map_append];exact G⟩,by simp only[intOf];omega⟩
  obtain rfl:c=n:=by omega
  have b7:¬ (c:Int)<(c:Int):=by omega
  go_wp2_with fail;go_returns;exact⟨_,rfl,b,j⟩
theorem ydq(h:WdP B F W g s d x)(b:d.l.length<=100):
  Calls Tryz.prog 51 #[.pointer (some ⟨g,0,.none⟩)] W fun e w'=>∃ v,e= .returned v/\Below W.heap.size W w'/\w'.ownsRow W.heap.size 3 1 v (whoL (fun _=>true) d.l d.l.length).length ((whoL (fun _=>true) d.l d.l.length).map (Value.int .i64)):=by
 have j:=hd' (z06 h b (fun _=>true) (fun c k X _ _=>by
  go_in
  go_wp2_with fail
  go_returns
  exact⟨rfl,Below.refl _ _⟩))
 clear h;go_in;go_wp2_with (first|(go_at_call 70;(with_reducible refine j.out.mono ?_);rintro r m ⟨v,rfl,hb,i⟩));go_returns;exact⟨_,rfl,hb,i⟩
end

end

section

def Wd.rest (s:Sh) (d:Wd) (c:Int):Wd:=d.goN s c (z5k s)
def restL (s:Sh) (l:List Int) (d:Wd):Wd:=l.foldl (fun d c=> d.rest s c) d
def adS (s:Sh) (c:Int) (d:Wd) (x:Int):Wd:=if x≠c/\1 < zrl s d x then (if (d.act s ⟨2,c,4,x,0,0⟩).2=0 then askW s d c ⟨4,x,0⟩ else (d.act s ⟨2,c,4,x,0,0⟩).1) else d
def adN (s:Sh) (c:Int) (d:Wd):Nat->Wd
 | 0=> d
 | n + 1=> adS s c (adN s c d n) n
def quietW (s:Sh) (c:Int) (d:Wd):Wd:=adN s c (restL s (whoL (fun _=> true) d.l d.l.length) d) s.c.toNat
theorem restL_snoc(s:Sh)(l:List Int)(c:Int)(d:Wd):restL s (l++[c]) d=(restL s l d).rest s c:=by unfold restL;rw[List.foldl_append];rfl
theorem mostV_le{s:Sh}(h:mayB s.p s.c s.m=true):z5k s<=8000:=by
 have hb:=zar.1 h;unfold z5k;omega
section

variable {s:Sh} {d:Wd} {n:Nat} {c:Int}

theorem ai_weak{m:Nat}(h:AI s d n)(b:n<=m):AI s d m:=⟨⟨h.1.fi,h.1.fit,h.1.len,h.1.kl,⟨h.1.st.1,by have:=h.1.st.2;omega⟩,by have:=h.1.tr;omega,h.1.lg⟩,h.2⟩
theorem ai_restL(l:List Int)(h:AI s d n):AI s (restL s l d) (n+l.length*z5k s):=by
 induction l generalizing d n with
 |nil=>exact ai_weak (show AI s (restL s [] d) n from h) (by simp);|cons a l f=>have b:=f (ai_goN (c:=a) h (z5k s));rw[List.length_cons,Nat.add_mul,Nat.one_mul,show n+(l.length*z5k s+z5k s)=n+z5k s+l.length*z5k s by omega];exact b
theorem ai_adS(h:AI s d n)(x:Int):AI s (adS s c d x) (n+1+z5k s):=by
 unfold adS;split
 ·split
  ·rename_i b;exact(ask_fin (o:=⟨4,x,0⟩) h b).1
  exact ai_weak (ai_act h ⟨2,c,4,x,0,0⟩) (by omega)
 exact ai_weak h (by omega)
theorem ai_adN(h:AI s d n)(i:Nat):AI s (adN s c d i) (n+i*(1+z5k s)):=by
 induction i with
 |zero=>exact ai_weak (show AI s (adN s c d 0) n from h) (by simp);|succ i f=>have b:=ai_adS (c:=c) f i;rw[Nat.add_mul,Nat.one_mul,<- Nat.add_assoc,<- Nat.add_assoc];exact b
theorem ai_quiet(h:AI s d n):AI s (quietW s c d) (n+12*z5k s+12*(1+z5k s)):=by
 have hb:=h.1.fi.bd;have f:(whoL (fun _=>true) d.l d.l.length).length<=12:=by have b:=zwg (fun _=>true) d.l d.l.length;have i:=h.1.len;omega
 have b:=ai_adN (c:=c) (ai_restL (whoL (fun _=>true) d.l d.l.length) h) s.c.toNat;refine ai_weak b ?_;have:=Nat.mul_le_mul_right (z5k s) f;have:=Nat.mul_le_mul_right (1+z5k s) (show s.c.toNat<=12 by omega);omega
def Rest (d:Wd) (c:Int):Prop:=∃ k,d.kl c=some k/\k.job=none
theorem goS_other{x:Int}(h:wdOk s d n)(f:x≠c):(d.goS s c).kl x=d.kl x:=by
 unfold Wd.goS;cases hk:d.kl c with
 |none=>rfl;|some k=>
  dsimp only;split
  ·obtain⟨_,_,b⟩:=h.kl _ _ hk;have hi:c.toNat<d.l.length:=by rw[h.len];omega
   rw[z5q hk b];unfold Wd.step;dsimp only;rw[d.zdk b.1 hi,if_neg f]
  rfl
theorem goN_other{x:Int}(h:wdOk s d n)(b:x≠c)(i:Nat):(d.goN s c i).kl x=d.kl x:=by
 induction i with
 |zero=>rfl
 |succ i f=>exact(goS_other (zz6 h i) b).trans f
theorem rest_keeps{x:Int}(h:wdOk s d n)(j:Rest d x)(c:Int):Rest (d.rest s c) x:=by
 obtain⟨k,b,f⟩:=j;by_cases e:x=c
 ·subst e;refine⟨k,?_,f⟩;have:=yfl (s:=s) (d:=d) (c:=x) (i:=0) b f (z5k s);unfold Wd.rest;rw[Nat.zero_add]at this;rw[this];exact b
 exact⟨k,(goN_other h e _).trans b,f⟩
theorem rest_mine(h:wdOk s d n){k:Kl}(b:d.kl c=some k):Rest (d.rest s c) c:=by
 rcases hj:k.job with _|j
 ·exact rest_keeps h ⟨k,b,hj⟩ c
 have l:Due d c k.steps:=⟨k,b,.inl ⟨by rw[hj];exact fun e=>(by cases e),rfl⟩⟩;have hs:=(h.kl _ _ b).1.st;have hb:=h.fi.bd;obtain⟨m,f,i,_⟩:=ya0 (zz6 h (z5k s)) (yav h l (z5k s)) (by unfold z5k;omega);exact⟨m,f,i⟩
theorem live_keeps{x:Int}(h:wdOk s d n)(i:∃ k,d.kl x=some k)(c:Int):∃ k,(d.rest s c).kl x=some k:=by
 obtain⟨k,b⟩:=i;by_cases e:x=c
 ·subst e;obtain⟨j,f,_⟩:=rest_mine h b;exact⟨j,f⟩
 exact⟨k,(goN_other h e _).trans b⟩
theorem restL_keeps{x:Int}(l:List Int)(h:wdOk s d n)(b:Rest d x):Rest (restL s l d) x:=by
 induction l generalizing d n with
 |nil=>exact b
 |cons a l f=>exact f (zz6 h (z5k s)) (rest_keeps h b a)
theorem restL_rests{x:Int}(l:List Int)(h:wdOk s d n)(b:∃ k,d.kl x=some k)(f:x ∈ l):Rest (restL s l d) x:=by
 induction l generalizing d n with
 |nil=>exact absurd f (by simp);|cons a l j=>
  rcases List.mem_cons.1 f with e|e
  ·subst e;obtain⟨k,i⟩:=b;exact restL_keeps l (zz6 h (z5k s)) (rest_mine h i)
  exact j (zz6 h (z5k s)) (live_keeps h b a) e
theorem rest_asks{o:Op3}(h:wdOk s d n)(l:Rest d c)(m:1<=o.k/\o.k<=4):(d.act s ⟨2,c,o.k,o.a,o.n,0⟩).2=0:=by
 obtain⟨k,f,i⟩:=l;obtain⟨_,_,j⟩:=h.kl _ _ f;unfold Wd.act;rw[if_neg (by unfold Ch.bad;dsimp only;omega),if_neg (show ¬ (2:Int)=1 by decide)];dsimp only;rw[f];dsimp only;rw[if_neg (show ¬ (2:Int)=3 by decide),if_pos rfl];unfold Wd.ask Kl.invoke;dsimp only;have b:k.rests=true:=by unfold Kl.rests;rw[i];rfl
 rw[if_neg (by rw[b];decide),if_neg (show ¬ ((⟨2,c,o.k,o.a,o.n,0⟩:Ch).op.k<1\/4<(⟨2,c,o.k,o.a,o.n,0⟩:Ch).op.k) from (show ¬ (o.k<1\/4<o.k) by omega))];split<;>rfl
theorem rest_ask{o:Op3}(h:wdOk s d n)(j:Rest d c)(i:1<=o.k/\o.k<=4):Rest (askW s d c o) c:=by
 obtain⟨k,b,f,_⟩:=yfn h (rest_asks h j i);exact⟨k,b,f⟩
theorem rest_adS(h:wdOk s d n)(b:Rest d c)(x:Int):Rest (adS s c d x) c:=by
 unfold adS;split
 ·rw[if_pos (rest_asks (o:=⟨4,x,0⟩) h b ⟨show (1:Int)<=4 by decide,Int.le_refl _⟩)];exact rest_ask (o:=⟨4,x,0⟩) h b ⟨show (1:Int)<=4 by decide,Int.le_refl _⟩
 exact b
theorem rest_adN(h:AI s d n)(b:Rest d c)(i:Nat):Rest (adN s c d i) c:=by
 induction i with
 |zero=>exact b
 |succ i f=>exact rest_adS (ai_adN h i).1 f i
theorem mem_who{l:List (Option Kl)}{c:Nat}{k:Kl}(hc:c<l.length)(b:l.getD c none=some k):(c:Int) ∈ whoL (fun _=>true) l l.length:=by
 unfold whoL;rw[List.mem_map];refine⟨c,?_,rfl⟩;rw[List.mem_filter];refine⟨List.mem_range.2 hc,?_⟩;unfold whoB;rw[b]
theorem rest_quiet(h:AI s d n){k:Kl}(b:d.kl c=some k):Rest (quietW s c d) c:=by
 obtain⟨_,_,f⟩:=h.1.kl _ _ b;have m:=h.1.len;have i:d.l.getD c.toNat none=some k:=by unfold Wd.kl at b;rw[if_pos f.1]at b;exact b
 have j:=mem_who (l:=d.l) (c:=c.toNat) (by omega) i;rw[show ((c.toNat:Nat):Int)=c by omega]at j;exact rest_adN (ai_restL _ h) (restL_rests _ h.1 ⟨k,b⟩ j) s.c.toNat
end

end

section

def Gone (s:Sh) (d:Wd) (c:Int):Prop:=∃ σ,WI s σ d/\d.kl c=none/\σ.st c≠ .unused
structure Still (s:Sh) (c:Int) (d d':Wd):Prop where
 gone:Gone s d' c
 tr:∃ es,d'.tr=d.tr ++ es/\∀ e ∈ es,e.c≠c
 lg:∃ l,d'.lg=d.lg ++ l/\∀ a ∈ l,a.c≠c
def actsF (s:Sh) (c:Int) (d:Wd) (l:List Ch):Wd:=l.foldl (fun d x=> if x.client≠c then (d.act s x).1 else d) d
theorem actsF_take{s:Sh}{c:Int}{d:Wd}{l:List Ch}{i:Nat}(h:i<l.length):actsF s c d (l.take (i+1))=if l[i].client≠c then((actsF s c d (l.take i)).act s l[i]).1 else actsF s c d (l.take i):=by
 unfold actsF;rw[List.take_succ_eq_append_getElem h,List.foldl_append];rfl
section

variable {s:Sh} {d:Wd} {n:Nat} {c:Int}

theorem ai_actsF(h:AI s d n)(l:List Ch):AI s (actsF s c d l) (n+l.length):=by
 induction l generalizing d n with
 |nil=>exact h;|cons x l i=>
  have b:AI s (if x.client≠c then(d.act s x).1 else d) (n+1):=by
   split
   ·exact ai_act h x
   exact ai_weak h (by omega)
  have f:=i b;rw[List.length_cons,show n+(l.length+1)=n+1+l.length by omega];exact f
def Fresh (s:Sh) (d:Wd) (c:Int):Prop:=∃ σ,WI s σ d/\σ.st c= .unused
theorem fresh_new(b:mayB s.p s.c s.m=true)(c:Int):Fresh s (zde s) c:=⟨z9x,ydc b,rfl⟩
theorem fresh_act(h:Fresh s d c)(hd:wdOk s d n){x:Ch}(o:x.client≠c):Fresh s (d.act s x).1 c:=by
 obtain⟨σ,b,hu⟩:=h;have f:∀ v,(σ.stat x.client v).st c= .unused:=fun v=>by show up σ.st x.client v c=_;rw[z6r _ (Ne.symm o)];exact hu
 unfold Wd.act;split
 ·exact⟨σ,b,hu⟩
 rename_i hb;unfold Ch.bad at hb;split
 ·by_cases i:d.stat x.client=0
  ·exact⟨_,zqr b hd x (by omega) i,f _⟩
  unfold Wd.begin;rw[if_neg i];exact⟨σ,b,hu⟩
 cases hk:d.kl x.client with
 |none=>exact⟨σ,b,hu⟩;|some k=>
  dsimp only;split
  ·cases hj:k.job with
   |none=>
    have:k.step s d.m=(k,d.m, [],2):=by unfold Kl.step;rw[hj]
    unfold Wd.step;rw[this];dsimp only;exact⟨σ,zw8 b hk (b.li _ k hk).2 (.inl rfl) _ _,hu⟩
   |some j=>have l:=zt5 b hd hk hj;exact⟨_,l.1,(l.2.1.st c).2 hu⟩
  split
  ·exact⟨σ,zwb b hd x hk,hu⟩
  exact⟨_,zp4 b hd hk,f _⟩
theorem fresh_actsF(h:Fresh s d c)(b:AI s d n)(l:List Ch):Fresh s (actsF s c d l) c:=by
 induction l generalizing d n with
 |nil=>exact h;|cons x l i=>
  refine i (d:=if x.client≠c then(d.act s x).1 else d) (n:=n+1) ?_ ?_
  ·split
   ·rename_i f;exact fresh_act h b.1 f
   exact h
  split
  ·exact ai_act b x
  exact ai_weak b (by omega)
theorem fresh_stat(h:Fresh s d c)(hc:0<=c/\c<s.c):d.stat c=0:=by
 obtain⟨σ,f,hu⟩:=h;have b:=f.rep.st c hc;rw[(ixs f.rep.fi).2.2.2 _ hc,hu]at b;unfold Wd.stat;rw[b];rfl
theorem fresh_start(h:Fresh s d c)(hd:wdOk s d n)(hc:0<=c/\c<s.c):(d.act s ⟨1,c,0,0,0,0⟩).2=0/\∃ k,(d.act s ⟨1,c,0,0,0,0⟩).1.kl c=some k:=by
 have b:=fresh_stat h hc;have hi:c.toNat<d.l.length:=by rw[hd.len];omega
 unfold Wd.act;rw[if_neg (by unfold Ch.bad;dsimp only;omega),if_pos rfl];unfold Wd.begin;dsimp only;rw[if_pos b];exact⟨rfl,_,by rw[d.zdk hc.1 hi,if_pos rfl]⟩
end

end

section

def frN (s:Sh) (c:Int) (d:Wd):Nat->Wd
 | 0=> d
 | i + 1=> askW s (frN s c d i) c ⟨2,i,0⟩
def kN (L:List Bk):Nat->Nat
 | 0=> 0
 | i + 1=> if (L.drop (kN L i)).head?.any (fun b=> b.a==(i:Int))=true then kN L i + 1 else kN L i
theorem head_found{W lo:Int}{l:List Bk}(h:okK W lo l){i:Int}(hi:∀ b ∈ l,i<=b.a):zd6 i l=l.head?.any (fun b=>b.a==i):=by
 cases l with
 |nil=>rfl;|cons b l=>
  have j:zd6 i (b::l)=true↔b.a=i:=by
   rw[zym h];constructor
   ·rintro⟨x,m,e⟩;rcases List.mem_cons.1 m with f|f
    ·rw[<-f];exact e
    have o:=okK.mem h.2.2 x f;have p:=hi b (by simp);have q:=h.2.1;omega
   intro e;exact⟨b,by simp,e⟩
  rw[Bool.eq_iff_iff,j];simp
theorem head_give{i:Int}{b:Bk}{l:List Bk}(e:b.a=i)(f:zd6 i (b::l)=true):zse (b::l) i=l:=by
 unfold zse;rw[if_pos f];unfold ya7;have j:posB i (b::l)=0:=by unfold posB;rw[if_neg (by omega)]
 rw[j];rfl
section

variable {s:Sh} {d:Wd} {n:Nat} {c:Int}

structure FrI (s:Sh) (d:Wd) (n:Nat) (c:Int) (i:Nat):Prop where
 ai:AI s (frN s c d i) (n + i * (1 + z5k s))
 rs:Rest (frN s c d i) c
 bl:(jdOf s (frN s c d i)).l=(jdOf s d).l.drop (kN (jdOf s d).l i)
 hi:∀ b ∈ (jdOf s d).l.drop (kN (jdOf s d).l i),(i:Int)<=b.a
 kl:kN (jdOf s d).l i<=(jdOf s d).l.length
theorem ai_ok(h:AI s d n):okK (s.p*64) 0 (jdOf s d).l:=by
 obtain⟨_,σ,_,b⟩:=h;have:=b.bl.ok;rw[b.W]at this;exact this
theorem okK.drop{W lo:Int}{l:List Bk}(h:okK W lo l)(k:Nat):∃ f,okK W f (l.drop k):=by
 induction l generalizing lo k with
 |nil=>exact⟨lo,by simpa using h⟩
 |cons b l i=>
  cases k with
  |zero=>exact⟨lo,h⟩
  |succ k=>exact i h.2.2 k
theorem fr_0(h:AI s d n)(f:Rest d c):FrI s d n c 0:=by
 refine⟨ai_weak (show AI s (frN s c d 0) n from h) (by simp),f,rfl,fun b hb=>?_,Nat.zero_le _⟩;exact(okK.mem (ai_ok h) b hb).1
theorem fr_next{i:Nat}(U:AI s d n)(h:FrI s d n c i):
  (((frN s c d i).act s ⟨2,c,2,i,0,0⟩).2=0)/\(ygv (frN s c d (i+1))=0↔((jdOf s d).l.drop (kN (jdOf s d).l i)).head?.any (fun b=>b.a==(i:Int))=true)/\(ygv (frN s c d (i+1))≠0->ygv (frN s c d (i+1))=1)/\FrI s d n c (i+1):=by
 obtain⟨N,O,R,H,S⟩:=h;have T:=ai_ok U;generalize q:(jdOf s d).l=L at *;have M:=rest_asks (o:=⟨2,i,0⟩) N.1 O ⟨show (1:Int)<=2 by decide,show (2:Int)<=4 by decide⟩;obtain⟨q1,k,l,e,q2,q3,q4,X,Y,E⟩:=ask_fin (o:=⟨2,i,0⟩) N M;have I:ygv (frN s c d (i+1))=e.er:=by show ygv (askW s (frN s c d i) c ⟨2,i,0⟩)=_;unfold ygv;rw[q4];simp
 obtain⟨lo,j⟩:=T.drop (kN L i);have r:=head_found j H;rw[R]at E;have m:=E.f1 rfl;have D:=E.f2 rfl;have J:=E.no;have p:=E.ers;dsimp only at m D p;rw[I];refine⟨M,by rw[m,r],fun z=>by rcases p z with C|C|C<;>omega,?_⟩;have y:kN L (i+1)=if (L.drop (kN L i)).head?.any (fun b=>b.a==(i:Int))=true then kN L i+1 else kN L i:=rfl;refine⟨?_,⟨k,q2,q3⟩,?_,?_,?_⟩
 ·rw[Nat.add_mul,Nat.one_mul,<- Nat.add_assoc,<- Nat.add_assoc];exact q1
 ·show (jdOf s (askW s (frN s c d i) c ⟨2,i,0⟩)).l=_;rw[q,y];by_cases z:e.er=0
  ·have C:=m.1 z;have f:=C;rw[r]at f;rw[if_pos f,D z];cases hd:L.drop (kN L i) with
   |nil=>rw[hd]at f;cases f;|cons b t=>
    rw[hd]at C f;have hb:b.a=(i:Int):=by simpa using f
    rw[head_give hb C,<- List.tail_drop,hd];rfl
  have f:¬ (L.drop (kN L i)).head?.any (fun b=>b.a==(i:Int))=true:=fun f=>z (m.2 (r.trans f));rw[if_neg f,(J z).1]
 ·rw[q,y];intro b hb;cases hd:L.drop (kN L i) with
  |nil=>rw[hd]at hb;rw[if_neg (by simp),hd]at hb;cases hb
  |cons a t=>
   rw[hd]at hb j H;by_cases f:a.a=(i:Int)
   ·rw[if_pos (by simp[f]),<- List.tail_drop,hd]at hb;have:=okK.mem j.2.2 b hb;have:=j.2.1;omega
   rw[if_neg (by simp[f]),hd]at hb;have V:=H a (by simp);rcases List.mem_cons.1 hb with G|G
   ·subst G;omega
   have:=okK.mem j.2.2 b G;have:=j.2.1;omega
 rw[q,y];split
 ·rename_i f;cases hd:L.drop (kN L i) with
  |nil=>rw[hd]at f;cases f;|cons a t=>
   have:(L.drop (kN L i)).length=(a::t).length:=by rw[hd]
   rw[List.length_drop,List.length_cons]at this;omega
 exact S
theorem fr_all(h:AI s d n)(b:Rest d c)(i:Nat):FrI s d n c i:=by
 induction i with
 |zero=>exact fr_0 h b
 |succ i f=>exact(fr_next h f).2.2.2
theorem fr_end(h:AI s d n)(o:Rest d c){N:Nat}(z:(N:Int)=s.p*64):kN (jdOf s d).l N=(jdOf s d).l.length/\(jdOf s (frN s c d N)).l= []:=by
 obtain⟨_,_,j,f,q⟩:=fr_all (c:=c) h o N;have m:=ai_ok h
 have hd:(jdOf s d).l.drop (kN (jdOf s d).l N)= []:=by
  cases hd:(jdOf s d).l.drop (kN (jdOf s d).l N) with
  |nil=>rfl
  |cons b t=>
   rw[hd]at f
   have r:=f b (by simp)
   have y:=okK.mem m b (List.mem_of_mem_drop (i:=kN (jdOf s d).l N) (by rw[hd];simp))
   omega
 refine⟨?_,j.trans hd⟩;have:=congrArg List.length hd;rw[List.length_drop,List.length_nil]at this;omega
end

end

end Go.Proofs.YtkbddndcegpllaaGreat
