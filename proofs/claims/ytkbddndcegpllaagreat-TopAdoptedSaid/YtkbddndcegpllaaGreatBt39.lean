/- Texts bound together: WGet WBeg WWho AskW. -/
import Derived.Test.YtkbddndcegpllaaGreatBt38

set_option linter.all false
set_option maxHeartbeats 8000000
set_option maxRecDepth 100000
namespace Go.Proofs.YtkbddndcegpllaaGreat

section

open Go.RowKit

attribute [local go_sem ↓] Go.wp_at_zero Go.wp_at_succ

theorem zlg{P:Program}{w:World}{a:Addr}{m:Mode}(k:FloatKind)(x:Nat):(store a (.float k x) m).run P w=stored P w a (.float k x) m:=run_store P w a _ m rfl
attribute [local go_sem] zlg

theorem zru(xs:List Ev):∀ u ∈ xs.flatMap (fun e=>e.cells.toList),u.oneCell'=true:=fun u hu=>by
 obtain⟨e,_,b⟩:=List.mem_flatMap.1 hu
 simp only[Ev.cells,List.mem_cons,List.not_mem_nil,or_false]at b
 rcases b with rfl|rfl|rfl|rfl|rfl|rfl|rfl|rfl<;>rfl
theorem zvh(xs:List Ev)(v:Value)(w:World)(I:RdS w 8 v xs.length (xs.flatMap fun e=>e.cells.toList))(H:xs.length<=100000000):
  Calls Tryz.prog 84 #[v] w fun e w'=>∃ v',e= .returned v'/\Below w.heap.size w w'/\w'.ownsRow w.heap.size 66 8 v' xs.length (xs.flatMap fun e=>e.cells.toList):=by
 obtain⟨ao,cap,rfl,G,J,N,p⟩:=id I;have o:∀ W:World,(binOp .eql 63 (.slice ao xs.length cap) (.slice none 0 0)).run Tryz.prog W= .ok (.bool ao.isNone) W:=fun W=>Lib.run_eql_slice_nil W _ _ ao _ _ _ _ Tryz.underlying63;rcases ao with _|ad
 ·have L:xs= []:=by
   rcases xs with _|⟨b,l⟩
   ·rfl
   obtain⟨_,_,h,_⟩:=p (by simp);cases h
  subst L;replace o:∀ W:World,(binOp .eql 63 (.slice none 0 cap) (.slice none 0 0)).run Tryz.prog W= .ok (.bool true) W:=o;show Calls Tryz.prog 84 #[.slice none 0 cap] w _;go_in;go_wp2;go_ret;exact⟨_,rfl,Below.refl _ _,⟨rfl,.inl ⟨rfl,rfl⟩⟩⟩
 obtain⟨M,r,z,C,D⟩:=info_parts zdb;have m:(w.alloc (.cells #[] 66)).ownsRow w.heap.size 66 8 (.slice (some ⟨w.heap.size,0,.none⟩) 0 0) 0 []:=World.ownsRow_lit w #[] 0 lr (Nat.zero_le _) rfl;have y:RdS (w.alloc (.cells #[] 66)) 8 (.slice (some ad) xs.length cap) xs.length (xs.flatMap fun e=>e.cells.toList):=RdS.alloc I _;go_in;go_wp2_with (refine zay rfl (.tmp 5) (.tmp 6) 63 rfl w.heap.size 66 M _ 8 64 Tryz.underlying63 r z C D rfl (by omega) _ 0 [] rfl m _ xs.length _ rfl y (zru xs) (by simp only[maxLen];omega) (by omega) (by simp) ?_;intro O R i j E;have q:=zaw ((Below.refl w.heap.size w).alloc lr _) m (by simp) j);go_ret;rw[Nat.zero_add,List.nil_append]at i;exact⟨_,rfl,q,i⟩
theorem zko{B:Nat}{F:Nat->Prop}{W:World}{g:Nat}{s:Sh}{d:Wd}{x:Wx}(h:WdP B F W g s d x)(l:d.tr.length<=100000000):
  Calls Tryz.prog 33 #[some g] W fun e w'=>∃ v',e= .returned v'/\Below W.heap.size W w'/\w'.ownsRow W.heap.size 66 8 v' d.tr.length (d.tr.flatMap fun e=>e.cells.toList):=by
 have j:∀ (p:Nat) (W:World),(binOp .eql 27 (.pointer (some ⟨p,0,.none⟩)) (.pointer none)).run Tryz.prog W= .ok (.bool false) W:=fun p W=>by kernel_rfl
 have c0:=ce x.tv (h.top.cell 5);have hc:=hd' (zvh d.tr x.tv W (RdS.zew h.tr) l);clear h;generalize x.tv=v at *;go_in;go_wp2_with (go_at_call 84;refine hc.out.mono ?_;rintro e o ⟨m,rfl,b,i⟩);go_ret;exact⟨_,rfl,b,i⟩
theorem ycw{B:Nat}{F:Nat->Prop}{W:World}{g:Nat}{s:Sh}{d:Wd}{x:Wx}(h:WdP B F W g s d x):
  Calls Tryz.prog 21 #[some g] W fun e w'=>∃ v',e= .returned v'/\Below W.heap.size W w'/\w'.ownsRow W.heap.size 137 1 v' d.m.ws.length (d.m.ws.map (Value.int .u64)):=by
 have l:∀ (p:Nat) (W:World),(binOp .eql 27 (.pointer (some ⟨p,0,.none⟩)) (.pointer none)).run Tryz.prog W= .ok (.bool false) W:=fun p W=>by kernel_rfl
 have c0:=ce (.pointer (some ⟨x.p,0,.none⟩)) (h.top.cell 3);have hc:=hd' (z8c x.p x.b d.m W h.wds);have lg:=h.top.lt;clear h;go_in;go_wp2_with (go_at_call 69;refine hc.out.mono ?_;rintro e q ⟨o,rfl,i,j⟩);go_ret;exact⟨_,rfl,i,j⟩
theorem zva{B:Nat}{F:Nat->Prop}{W:World}{g:Nat}{s:Sh}{d:Wd}{x:Wx}(h:WdP B F W g s d x)(c:Int)(hc:0<=c/\c.toNat<d.l.length)(r:d.l.length<=100):
  Calls Tryz.prog 31 #[some g,c] W fun e w'=>e= .returned (ptrK (d.kl c) (x.qs c.toNat))/\Below W.heap.size W w':=by
 have b:∀ (p:Nat) (W:World),(binOp .eql 27 (.pointer (some ⟨p,0,.none⟩)) (.pointer none)).run Tryz.prog W= .ok (.bool false) W:=fun p W=>by kernel_rfl
 have i:=ce (.slice (some ⟨x.lb,0,.none⟩) d.l.length d.l.length) (h.top.cell 4);have lg:=h.top.lt;have C:=h.ptr hc.1 hc.2;have y:=h.lst.lt;have j:=hc.1;have m:c<(d.l.length:Int):=by omega
 have o:¬ c<0:=by omega
 have q:¬ (d.l.length:Int)<=c:=by omega
 clear h hc;generalize ptrK (d.kl c) (x.qs c.toNat)=z at *;go_in;go_wp2_with fail;go_returns;exact⟨rfl,by go_grown⟩
theorem znm(c:Ch)(W:World):Calls Tryz.prog 18 #[.agg c.cells.toArray] W fun e w'=>e= .returned (.agg c.cells.toArray)/\Below W.heap.size W w':=by
 obtain⟨l,j,m,b,cn,i⟩:=c;show Calls Tryz.prog 18 #[.agg #[l,j,m,b,cn,.float .f64 i]] W fun e w'=>e= .returned (.agg #[l,j,m,b,cn,.float .f64 i])/\Below W.heap.size W w';go_in;go_wp2_with fail;have o:(W.alloc (.cells #[l,j,m,b,cn,.float .f64 i] 35)).heap.size=W.heap.size+1:=by simp
 have t:zaa ((W.alloc (.cells #[l,j,m,b,cn,.float .f64 i] 35)).alloc (.cells #[l,j,m,b,cn,.float .f64 i] 38)) (W.heap.size+1) #[l,j,m,b,cn,.float .f64 i] 38:=by have h:=heap_alloc_new (W.alloc (.cells #[l,j,m,b,cn,.float .f64 i] 35)) (.cells #[l,j,m,b,cn,.float .f64 i] 38);rw[o]at h;exact h
 have hb:Below W.heap.size W ((W.alloc (.cells #[l,j,m,b,cn,.float .f64 i] 35)).alloc (.cells #[l,j,m,b,cn,.float .f64 i] 38)):=by go_grown
 generalize (W.alloc (.cells #[l,j,m,b,cn,.float .f64 i] 35)).alloc (.cells #[l,j,m,b,cn,.float .f64 i] 38)=X at *;generalize W.heap.size+1=H at *;obtain⟨r0,r1,p,q,r⟩:=ci5 l j m b cn t.cell;have y:=ce (.float .f64 i) (t.cell 5);exact bodyPost_ret (v:= .agg #[l,j,m,b,cn,.float .f64 i]) (by simp[results,Tryz.results18,go_sem,r0,r1,p,q,r,y]) rfl ⟨rfl,hb⟩
end

section

open Go.RowKit

attribute [local go_sem ↓] Go.wp_at_zero Go.wp_at_succ

theorem ydu:(Tryz.prog.info? 348).map (fun i=>(i.zero,i.size,i.bytes))=some (some (.pointer none),1,8):=by kernel_rfl
theorem z0w(n:Nat)(l:n<=100):∀ u:World,(Instr.makeSlice 165 (.int .i64 (n:Int)) (.int .i64 (n:Int))).run Tryz.prog u= .ok (.slice (some ⟨u.heap.size,0,.none⟩) n n) (u.alloc (.cells (madeCells #[.pointer none] n) 348)):=fun u=>by
 obtain⟨j,hi,b,f,i⟩:=info_parts ydu
 have h:=run_make (P:=Tryz.prog) u 165 348 j (.pointer none) Tryz.underlying165 hi b .i64 .i64 (n:Int) (n:Int) (by omega) (Int.le_refl _) (by rw[i];omega) (by omega)
 rw[Int.toNat_natCast]at h
 simpa[f,Value.cells] using h
theorem z0l(n:Nat)(l:n<=2000)(w:World):
  Calls Tryz.prog 106 #[.int .i64 (n:Int)] w fun e w'=>(∃ p,e= .returned (.pointer (some ⟨p,0,.none⟩)))/\Below w.heap.size w w':=by
 have b:=zv8 n (by omega);have i:decide ((n:Int)<0)=false:=decide_eq_false (by omega);have j:decide ((2000:Int)<(n:Int))=false:=decide_eq_false (by omega);go_in;go_wp2_with fail;go_returns;exact⟨⟨_,rfl⟩,by go_grown⟩
theorem ybd(s:Sh)(W:World)(G:mayB s.p s.c s.m=true):
  Calls Tryz.prog 55 #[.agg #[s.p,s.c,s.m]] W fun e w'=>Below W.heap.size W w'/\∃ g,e= .returned (.tuple #[.pointer (some ⟨g,0,.none⟩),.int .i64 0]):=by
 have j:=fun Y=>refMay_any s.p s.c s.m Y;rw[G]at j;have hb:=zar.1 G;have V:=(zoy G).2;have l:=fun Y=>zv0 s Y;obtain⟨sp,S,b⟩:=s;dsimp only at *;obtain⟨n,rfl⟩:∃ n:Nat,S=(n:Int):=⟨S.toNat,by omega⟩;obtain⟨N,R,y⟩:∃ N:Nat,zb6 sp (n:Int) b=(N:Int)/\N<=2000:=⟨(zb6 sp (n:Int) b).toNat,by omega,by omega⟩;rw[R]at l;have o:=fun Y=>z0l N y Y;have b0:=z0w n (by omega);replace j:=hd' j;replace l:=hd' l;replace o:=hd' o;have b1:(n:Int)<=12:=by omega
 have J:=heap_alloc_new W (.cells #[sp,.int .i64 (n:Int),b] 23);have t0:zaa (W.alloc (.cells #[sp,.int .i64 (n:Int),b] 23)) W.heap.size #[sp,.int .i64 (n:Int),b] 23:=J;have t1:=t0.alloc (.cells #[sp,.int .i64 (n:Int),b] 23);have z:Below W.heap.size W ((W.alloc (.cells #[sp,.int .i64 (n:Int),b] 23)).alloc (.cells #[sp,.int .i64 (n:Int),b] 23)):=by go_grown
 clear G hb V R y J t0;go_in;go_upto_region 3 with(first|(go_at_call 28;(with_reducible refine(j.out _).mono ?_);rintro r w1 ⟨rfl,L⟩;obtain rfl:=L.symm));generalize (W.alloc (.cells #[sp,.int .i64 (n:Int),b] 23)).alloc (.cells #[sp,.int .i64 (n:Int),b] 23)=X at *;obtain⟨H,J,q⟩:=hidv W.heap.size;rw[<-q]at t1 ⊢;clear q;have lH:=t1.lt;have i:∀ Y,zaa Y H #[sp,.int .i64 (n:Int),b] 23->Y.cell? ⟨H,0,.none⟩=some (.int .i64 sp)/\Y.cell? ⟨H,1,.none⟩=some (.int .i64 (n:Int))/\Y.cell? ⟨H,2,.none⟩=some (.int .i64 b):=fun Y h=>⟨h.cell 0,h.cell 1,h.cell 2⟩;replace i:=hd' i
 go_region_held3 (fun Y=>Y.cell? ⟨H,0,.none⟩=some (.int .i64 sp)/\Y.cell? ⟨H,1,.none⟩=some (.int .i64 (n:Int))/\Y.cell? ⟨H,2,.none⟩=some (.int .i64 b))
  (first|exact i.out _ t1.drew|exact i.out _ (t1.drew.alloc _)|exact i.out _ ((M.alloc _).alloc _)|exact i.out _ (M.alloc _)|exact i.out _ M|exact i.out _ (T.alloc _)|exact i.out _ T)
  (first|(go_at_call 92;(with_reducible refine(l.out _).mono ?_);rintro r w4 ⟨rfl,C⟩;have E:Below X.heap.size X w4:=(by first|exact zab br.drew C|exact zab (br.drew.alloc lr _) C);have T:=t1.below E)|(go_at_call 106;(with_reducible refine(o.out _).mono ?_);rintro r w5 ⟨⟨p,rfl⟩,D⟩;have I:Below X.heap.size X w5:=(by first|exact zab E D|exact zab (E.alloc E.size _) D);have M:=t1.below I))
 all_goals have Z:=z.size;have U:=I.size;have O:=zab z I;go_wp2_with fail;go_returns;exact⟨by first|exact(O.alloc (by omega) _)|exact((O.alloc (by omega) _).alloc (by simp;omega) _),_,rfl⟩
theorem yez(s:Sh)(W:World)(l:¬ mayB s.p s.c s.m=true):
  Calls Tryz.prog 55 #[.agg #[s.p,s.c,s.m]] W fun e w'=>Below W.heap.size W w'/\e= .returned (.tuple #[.pointer none,.int .i64 1]):=by
 have b:=fun Y=>refMay_any s.p s.c s.m Y;have i:mayB s.p s.c s.m=false:=by simpa using l
 rw[i]at b;obtain⟨sp,o,q⟩:=s;dsimp only at *;replace b:=hd' b;clear l i;go_in;go_wp2_with (first|(go_at_call 28;(with_reducible refine(b.out _).mono ?_);rintro r t ⟨rfl,j⟩;obtain rfl:=j.symm));go_returns;exact⟨by go_grown,rfl⟩
theorem znk(s:Sh)(W:World)(C:mayB s.p s.c s.m=true):
  Calls Tryz.prog 16 #[.agg #[s.p,s.c,s.m]] W fun e w'=>Below W.heap.size W w'/\∃ g v x,e= .returned (.tuple #[.pointer (some ⟨g,0,.none⟩),.pointer (some ⟨v,0,.none⟩)])/\WdP W.heap.size (fun i=>W.heap.size<=i/\i<w'.heap.size) w' g s (zde s) x:=by
 have q:=fun Y=>zzx s Y C;have y:=fun Y=>ybd s Y C;have E:∀ (p:Nat) (W:World),(binOp .eql 27 (.pointer (some ⟨p,0,.none⟩)) (.pointer none)).run Tryz.prog W= .ok (.bool false) W:=fun p W=>by kernel_rfl
 have z:=(Below.refl W.heap.size W).alloc lr (.cells #[s.p,s.c,s.m] 23);have t0:zaa (W.alloc (.cells #[s.p,s.c,s.m] 23)) W.heap.size #[s.p,s.c,s.m] 23:=heap_alloc_new _ _;replace q:=hd' q;replace y:=hd' y;clear C;go_in;go_upto_region 1 with fail;have o:(W.alloc (.cells #[s.p,s.c,s.m] 23)).heap.size=W.heap.size+1:=by simp
 generalize W.alloc (.cells #[s.p,s.c,s.m] 23)=X at *;obtain⟨H,O,b⟩:=hidv W.heap.size;rw[<-b]at t0 o ⊢;have G:=t0.cell;replace o:=hd' o;replace b:=hd' b;go_wp2_with (first|(go_at_call 54;(with_reducible refine(q.out _).mono ?_);rintro r R ⟨j,g,x,rfl,D⟩;have t1:=t0.below j;have I:=t1.cell)|(go_at_call 55;(with_reducible refine(y.out _).mono ?_);rintro r S ⟨l,v,rfl⟩));go_returns;have J:=j.size;have L:=l.size;have M:=o.out;have N:=b.out;exact⟨zab (zab z j) l,g,v,x,rfl,((D.below l).lower (by omega)).weak (fun i hi=>⟨by omega,by omega⟩) (fun i hi=>hi)⟩
theorem yfo(s:Sh)(W:World)(y:¬ mayB s.p s.c s.m=true):
  Calls Tryz.prog 16 #[.agg #[s.p,s.c,s.m]] W fun e w'=>Below W.heap.size W w'/\e= .returned (.tuple #[.pointer none,.pointer none]):=by
 have j:=fun Y=>z8i s Y y;have l:=fun Y=>yez s Y y;have o:=(Below.refl W.heap.size W).alloc lr (.cells #[s.p,s.c,s.m] 23);have t0:zaa (W.alloc (.cells #[s.p,s.c,s.m] 23)) W.heap.size #[s.p,s.c,s.m] 23:=heap_alloc_new _ _;have z:∀ W:World,(binOp .eql 27 (.pointer none) (.pointer none)).run Tryz.prog W= .ok (.bool true) W:=fun W=>by kernel_rfl
 replace j:=hd' j;replace l:=hd' l;clear y;go_in;go_upto_region 1 with fail;generalize W.alloc (.cells #[s.p,s.c,s.m] 23)=X at *;obtain⟨H,E,b⟩:=hidv W.heap.size;rw[<-b]at t0 ⊢;clear b;have C:=t0.cell;go_wp2_with (first|(go_at_call 54;(with_reducible refine(j.out _).mono ?_);rintro r G ⟨i,rfl⟩;have t1:=t0.below i;have D:=t1.cell)|(go_at_call 55;(with_reducible refine(l.out _).mono ?_);rintro r I ⟨q,rfl⟩));go_returns;exact⟨zab (zab o i) q,rfl⟩
theorem z1o:(Tryz.prog.info? 3).map (fun i=>(i.zero,i.size,i.bytes))=some (some (.int .i64 0),1,8):=by kernel_rfl
def whoB (P:Kl->Bool) (l:List (Option Kl)) (c:Nat):Bool:=match l.getD c none with
 | some k=> P k
 | none=> false
def whoL (P:Kl->Bool) (l:List (Option Kl)) (n:Nat):List Int:=((List.range n).filter (whoB P l)).map (fun c:Nat=> (c:Int))
theorem ztj(P:Kl->Bool)(l:List (Option Kl))(n:Nat):whoL P l (n+1)=whoL P l n++if whoB P l n=true then [(n:Int)] else []:=by
 unfold whoL;rw[List.range_succ,List.filter_append,List.map_append];congr 1;by_cases h:whoB P l n=true
 ·rw[if_pos h];simp[h]
 rw[if_neg h];simp[h]
theorem zwg(P:Kl->Bool)(l:List (Option Kl))(n:Nat):(whoL P l n).length<=n:=by
 unfold whoL;rw[List.length_map];have h:=List.length_filter_le (whoB P l) (List.range n);rw[List.length_range]at h;exact h
section

variable {B:Nat} {F:Nat->Prop} {W:World} {g:Nat} {s:Sh} {d:Wd} {x:Wx}

theorem z06(h:WdP B F W g s d x)(hn:d.l.length<=100)(P:Kl->Bool)
  (O:∀ c k X,d.l.getD c none=some k->Below W.heap.size W X->Calls Tryz.prog 103 #[.pointer (some ⟨x.qs c,0,.none⟩)] X fun e w'=>e= .returned (.bool (P k))/\Below X.heap.size X w'):
  Calls Tryz.prog 70 #[some g,.func (.func 103) #[] #[]] W fun e w'=>∃ v,e= .returned v/\Below W.heap.size W w'/\w'.ownsRow W.heap.size 3 1 v (whoL P d.l d.l.length).length ((whoL P d.l d.l.length).map (Value.int .i64)):=by
 have Z:∀ (p:Nat) (W:World),(binOp .eql 27 (.pointer (some ⟨p,0,.none⟩)) (.pointer none)).run Tryz.prog W= .ok (.bool false) W:=fun p W=>by kernel_rfl
 have b0:∀ (W:World),(binOp .neq 61 (.pointer none) (.pointer none)).run Tryz.prog W= .ok (.bool false) W:=fun W=>by kernel_rfl
 have b1:∀ (p:Nat) (W:World),(binOp .neq 61 (.pointer (some ⟨p,0,.none⟩)) (.pointer none)).run Tryz.prog W= .ok (.bool true) W:=fun p W=>by kernel_rfl
 have c4:=ce (.slice (some ⟨x.lb,0,.none⟩) d.l.length d.l.length) (h.top.cell 4);have lg:=h.top.lt;have i:∀ c X,c<d.l.length->Below W.heap.size W X->X.cell? ⟨x.lb,c,.none⟩=some (ptrK (d.l.getD c none) (x.qs c))/\x.lb<X.heap.size:=fun c X hc hb=>⟨((h.below hb).lst.cell c).trans (by simpa using(h.below hb).pe c hc),(h.below hb).lst.lt⟩;obtain⟨i0,R,S,T,U⟩:=info_parts z1o;have H:=fun c=>ztj P d.l c;have E:=fun c=>zwg P d.l c
 have y:∀ c o,d.l.getD c none=o->whoB P d.l c=match o with
  |some k=>P k
  |none=>false:=fun c o e=>by subst e;rfl
 generalize V:d.l.length=n at *;replace O:=hd' O;replace i:=hd' i;replace H:=hd' H;replace E:=hd' E;replace y:=hd' y;replace V:=hd' V;clear h;go_in;go_wp2;go_loopw [5,15] (fun v5 I wr=>∃ c:Nat,c<=n/\I= .int .i64 c/\Below W.heap.size W wr/\wr.ownsRow W.heap.size 3 1 v5 (whoL P d.l c).length ((whoL P d.l c).map (Value.int .i64))) (fun _ I _=>n-(intOf I).toNat);case atStart=>exact⟨0,Nat.zero_le _,rfl,Below.refl _ _,⟨by simp[whoL],.inl ⟨rfl,by simp[whoL]⟩⟩⟩
 case round=>
  obtain⟨c,b5,rfl,b,j⟩:=hrel;have b3:(0:Int)<=(c:Int):=by omega
  by_cases hc:c<n
  ·have b4:(c:Int)<(n:Int):=by omega
   have b9:IntKind.i64.wrap ((c:Int)+1)=(c:Int)+1:=IntWalk.i64_in _ ⟨by omega,by omega⟩;have z:=i.out c wr hc b;have J:=z.1;have z2:=z.2;have hs:=H.out c;have b6:=E.out c;cases hk:d.l.getD c none with
   |none=>have q:whoB P d.l c=false:=y.out c _ hk;rw[hk]at J;rw[if_neg (by rw[q];decide),List.append_nil]at hs;replace J:wr.cell? ⟨x.lb,c,.none⟩=some (.pointer none):=J;replace hs:=hd' hs;clear q hk z;go_wp2_with fail;exact⟨⟨c+1,by omega,by go_num,b,by rw[hs.out];exact j⟩,by simp only[intOf];omega⟩
   |some k=>
    have q:whoB P d.l c=P k:=y.out c _ hk
    rw[hk]at J
    replace J:wr.cell? ⟨x.lb,c,.none⟩=some (.pointer (some ⟨x.qs c,0,.none⟩)):=J
    have M:=O.out c k wr hk b
    have b2:=b.size
    rw[q]at hs
    generalize P k=pk at *
    generalize whoL P d.l c=L at *
    replace M:=hd' M
    clear q hk z
    cases pk with
    |false=>
     rw[if_neg (by decide),List.append_nil]at hs
     replace hs:=hd' hs
     go_wp2_with (first|(go_at_call 103;(with_reducible refine M.out.mono ?_);rintro r w6 ⟨rfl,m⟩))
     have N:=zab b m
     exact⟨⟨c+1,by omega,by go_num,N,by rw[hs.out];exact zic j m⟩,by simp only[intOf];omega⟩
    |true=>
     rw[if_pos rfl]at hs
     replace hs:=hd' hs
     go_wp2_with (first|(go_at_call 103;(with_reducible refine M.out.mono ?_);rintro r w6 ⟨rfl,m⟩;have N:=zab b m;have b8:=m.size;have D:=zic j m)|(refine zay rfl (.tmp 27) (.tmp 29) 49 rfl W.heap.size 3 i0 _ 1 8 Tryz.underlying49 R S T U rfl (by omega) _ L.length _ rfl (D.alloc _) _ 1 [.int .i64 c] rfl (RdS.new (cs:= #[c]) (t:=3) (sz:=1) (n:=1) (heap_alloc_new w6 _) rfl (by omega)) (by intro u hu;simp at hu;subst hu;rfl) (by simp only[maxLen];omega) (by omega) (by simp;omega) ?_;intro v7 w7 G C Y;have h7:=zaw (N.alloc (by omega) _) (D.alloc _) (by simp;omega) C))
     exact⟨⟨c+1,by omega,by go_num,h7,by rw[hs.out,List.length_append,List.map_append];exact G⟩,by simp only[intOf];omega⟩
  obtain rfl:c=n:=by omega
  have b7:¬ (c:Int)<(c:Int):=by omega
  go_wp2_with fail;go_returns;exact⟨_,rfl,b,j⟩
theorem ydq(h:WdP B F W g s d x)(b:d.l.length<=100):
  Calls Tryz.prog 51 #[some g] W fun e w'=>∃ v,e= .returned v/\Below W.heap.size W w'/\w'.ownsRow W.heap.size 3 1 v (whoL (fun _=>true) d.l d.l.length).length ((whoL (fun _=>true) d.l d.l.length).map (Value.int .i64)):=by
 have j:=hd' (z06 h b (fun _=>true) (fun c k X _ _=>by
  go_in
  go_wp2_with fail
  go_returns
  exact⟨rfl,Below.refl _ _⟩))
 clear h;go_in;go_wp2_with (first|(go_at_call 70;(with_reducible refine j.out.mono ?_);rintro r m ⟨v,rfl,hb,i⟩));go_returns;exact⟨_,rfl,hb,i⟩
end

end

section

open Go.RowKit

attribute [local go_sem ↓] Go.wp_at_zero Go.wp_at_succ

theorem yg0(s:Sh)(i:mayB s.p s.c s.m=true)(w:World):
  Calls Tryz.prog 45 #[.agg #[s.p,s.c,s.m]] w fun e w'=>e= .returned (.int .i64 (z5k s:Int))/\Below w.heap.size w w':=by
 have hb:=zar.1 i;have b:=fun W=>zcc s.p s.c s.m W;rw[i]at b;have j:((z5k s:Nat):Int)=110*s.p+4*s.m+60:=by unfold z5k;omega
 rw[j];clear j;obtain⟨p,c,m⟩:=s;dsimp only at b hb ⊢;have l:=wrp (110*p);have o:=wrp (4*m);have q:=wrp (110*p+4*m);have r:=wrp (110*p+4*m+60);replace b:=hd' b;clear i hb;go_in;go_wp2_with (go_at_call 96;refine(b.out _).mono ?_;rintro e l ⟨rfl,rfl⟩);go_ret;exact⟨rfl,by go_grown⟩
section

variable {B:Nat} {F:Nat->Prop} {W W1 W2:World} {g:Nat} {s:Sh} {d d2:Wd} {x:Wx} {n:Nat}

theorem WdTq.below{R:(Nat->Nat)->Prop}(h:WdTq R B F W W1 g s d)(o:B<=W.heap.size)(f:∀ i,F i->B<=i/\i<W.heap.size)(hb:Below W1.heap.size W1 W2):WdTq R B F W W2 g s d:=by
 obtain⟨⟨x,j,l⟩,b,m⟩:=h;have hs:=hb.size;refine⟨⟨x,(j.below hb).weak (fun i hi=>?_) (fun i hi=>?_),l⟩,Only.trans (F:=F) b (Only.of_below (F:=fun _=>False) hb) (fun _ _ e=>e.elim),by omega⟩
 ·rcases hi with hi|hi
  ·exact .inl hi
  exact .inr ⟨hi.1,by omega⟩
 have:=b.size;rcases hi with hi|hi
 ·exact⟨(f i hi).1,by have:=(f i hi).2;omega⟩
 exact⟨by omega,hi.2⟩
theorem yg6(h:WdP B F W g s d x)(b:B<=W.heap.size)(j:wdOk s d n)(i:n<=10000000)(c:Int)(hc:0<=c/\c<s.c):
  Calls Tryz.prog 17 #[some g,.agg #[.int .i64 3,c,.int .i64 0,.int .i64 0,.int .i64 0,.float .f64 0]] W fun e w'=>e= .returned (.int .i64 (d.act s (zjx c)).2)/\WdTq (fun q=>q=x.qs) B F W w' g s (d.act s (zjx c)).1:=
 (z0t h b j i (zjx c) (by unfold Ch.bad zjx;dsimp only;omega)).mono fun e w' h=>⟨h.1,h.2.imp fun q e=>e rfl⟩
def TrAt (w:World) (v:Value) (c er:Int):Prop:=∃ b off cap m:Nat,v= .slice (some ⟨b,off,.none⟩) (m + 1) cap/\m + 1<=cap/\(cap:Int)<=9223372036854775807/\b < w.heap.size/\w.cell? ⟨b,off + m * 8,.none⟩=some (.int .i64 5)/\w.cell? ⟨b,off + m * 8 + 1,.none⟩=some (.int .i64 c)/\w.cell? ⟨b,off + m * 8 + 7,.none⟩=some (.int .i64 er)
theorem yg1(l:List Ev)(e:Ev)(k:Nat)(i:k<8):((l++[e]).flatMap fun e=>e.cells.toList)[l.length*8+k]?=e.cells.toList[k]?:=by
 have b:(l.flatMap fun e=>e.cells.toList).length=l.length*8:=by
  induction l with
  |nil=>rfl
  |cons a l f=>rw[List.flatMap_cons,List.length_append,f];show 8+_=(l.length+1)*8;omega
 rw[List.flatMap_append,List.getElem?_append_right (by omega),b,show l.length*8+k-l.length*8=k by omega];simp
theorem yg2(h:WdP B F W g s d x)(D:d.tr.length<=100000000)(c:Int)(H:Told d c):
  Calls Tryz.prog 33 #[some g] W fun e w'=>Below W.heap.size W w'/\∃ v,e= .returned v/\TrAt w' v c (ygv d):=by
 obtain⟨l,o,m,y,z⟩:=H;refine(zko h D).mono fun e w' ⟨v,q,r,t⟩=>⟨r,v,q,?_⟩;obtain⟨ao,cap,rfl,hc,E,_,G⟩:=RdS.zew t;have j:d.tr.length=l.length+1:=by rw[m];simp
 obtain⟨b,p,rfl,hb,i⟩:=G (by omega);have C:ygv d=o.er:=by unfold ygv;rw[m];simp
 rw[C];refine⟨b,p,cap,l.length,by rw[j],by omega,E,hb,?_,?_,?_⟩
 ·refine(i (l.length*8) (by rw[j];omega)).trans ?_;rw[m];refine(yg1 l o 0 (by omega)).trans ?_;rw[<-y];rfl
 ·rw[Nat.add_assoc];refine(i (l.length*8+1) (by rw[j];omega)).trans ?_;rw[m];refine(yg1 l o 1 (by omega)).trans ?_;rw[<-z];rfl
 rw[Nat.add_assoc];refine(i (l.length*8+7) (by rw[j];omega)).trans ?_;rw[m];exact yg1 l o 7 (by omega)
theorem yha(h:WdP B F W g s d x)(hB:B<=W.heap.size)(ho:wdOk s d n)(hn:n+1+z5k s<=10000000)(c:Int)(o:Op3):
  Calls Tryz.prog 22 #[some g,.agg #[s.p,s.c,s.m],c,.agg #[o.k,o.a,o.n]] W fun e w'=>
   (if (d.act s ⟨2,c,o.k,o.a,o.n,0⟩).2=0 then e= .returned (.tuple #[.int .i64 (ygv (askW s d c o)),.bool true])/\WdTo B F W w' g s (askW s d c o)
    else e= .returned (.tuple #[.int .i64 0,.bool false])/\WdTo B F W w' g s (d.act s ⟨2,c,o.k,o.a,o.n,0⟩).1):=by
 have hm:=ho.fi.may;have b7:=fun Y=>yg0 s hm Y;have bq:=((Below.refl W.heap.size W).alloc lr (.cells #[s.p,s.c,s.m] 23));have b5:=bq.alloc bq.size (.cells #[o.k,o.a,o.n] 32);obtain⟨rA,rO,e5,_⟩:=zc5 W (.cells #[s.p,s.c,s.m] 23) (.cells #[o.k,o.a,o.n] 32);have tA:zaa ((W.alloc (.cells #[s.p,s.c,s.m] 23)).alloc (.cells #[o.k,o.a,o.n] 32)) W.heap.size #[s.p,s.c,s.m] 23:=rA;have tO:zaa ((W.alloc (.cells #[s.p,s.c,s.m] 23)).alloc (.cells #[o.k,o.a,o.n] 32)) (W.heap.size+1) #[o.k,o.a,o.n] 32:=rO;have cy:∀ (p:Nat) (W:World),(binOp .eql 61 (.pointer (some ⟨p,0,.none⟩)) (.pointer none)).run Tryz.prog W= .ok (.bool false) W:=fun p W=>by kernel_rfl
 clear rA rO bq;have z:=zeo ho ⟨2,c,o.k,o.a,o.n,0⟩;have I:=fun e=>yct ho (x:=⟨2,c,o.k,o.a,o.n,0⟩) rfl e;obtain⟨b1,E,bf⟩:=hidv (askW s d c o);rw[<-bf];clear bf;replace E:=hd' (E.out.trans (show askW s d c o=(d.act s ⟨2,c,o.k,o.a,o.n,0⟩).1.goN s c (z5k s) from rfl));obtain⟨d1,cq,bh⟩:∃ b,Hid (b=(d.act s ⟨2,c,o.k,o.a,o.n,0⟩).1)/\b=(d.act s ⟨2,c,o.k,o.a,o.n,0⟩).1:=⟨_,hd' rfl,rfl⟩;obtain⟨er,cr,bi⟩:∃ b,Hid (b=(d.act s ⟨2,c,o.k,o.a,o.n,0⟩).2)/\b=(d.act s ⟨2,c,o.k,o.a,o.n,0⟩).2:=⟨_,hd' rfl,rfl⟩;rw[<-bh]at E z I ⊢;rw[<-bi]at I ⊢;clear bh bi;go_in;go_upto_region 1 with fail;generalize (W.alloc (.cells #[s.p,s.c,s.m] 23)).alloc (.cells #[o.k,o.a,o.n] 32)=W2 at *;obtain⟨H,hH,c5⟩:=hidv W.heap.size;rw[<-c5]at tA tO ⊢;clear c5;have cz:=h.below b5;have e8:=tA.lt;have bm:B<=W2.heap.size:=by omega
 have y:∀ i,F i->B<=i/\i<H:=fun i hi=>by have:=h.lt i hi;have:=hH.out;omega
 have c4:¬ F H:=fun e=>by have:=(y H e).2;omega
 have X:Calls Tryz.prog 17 #[some g,.agg #[.int .i64 2,c,o.k,o.a,o.n,.float .f64 0]] W2 fun e w'=>e= .returned (.int .i64 (d.act s ⟨2,c,o.k,o.a,o.n,0⟩).2)/\WdTo B F W2 w' g s (d.act s ⟨2,c,o.k,o.a,o.n,0⟩).1:=zkm cz bm ho (by omega) ⟨2,c,o.k,o.a,o.n,0⟩;have S:∀ w' dd,WdTo B F W2 w' g s dd->WdTo B F W w' g s dd:=fun w' dd hk=>WdTo.from h hB b5 hk;rw[<-cq.out,<- cr.out]at X;have cf:=tO.cell;have lO:=tO.lt;replace X:=hd' X;replace b7:=hd' b7;replace I:=hd' I;replace S:=hd' S;replace b5:=hd' b5;clear h;by_cases h0:¬ er=0
 ·have be:(er==0)=false:=by rw[beq_eq_false_iff_ne];exact h0
  go_wp2_with (first|(go_at_call 17;(with_reducible refine X.out.mono ?_);rintro r w3 ⟨rfl,hT⟩));go_returns;exact⟨rfl,S.out _ _ hT⟩
 replace h0:=Decidable.not_not.1 h0;obtain⟨b6,c7,hD⟩:=I.out h0;dsimp only at b6 c7 hD;subst h0;obtain⟨k1,c9,_⟩:=id hD;have cm:c.toNat<d1.l.length:=(Wd.zfs c9).2;have cv:d1.l.length<=100:=by rw[z.len];have:=ho.fi.bd;omega
 go_upto_region 3 with(first|(go_at_call 17;(with_reducible refine X.out.mono ?_);rintro r w3 ⟨rfl,hT⟩));have tA3:=tA.only hT.2.1 c4;obtain⟨⟨x3,bw⟩,cb,bz⟩:=id hT;have G:=zva bw c ⟨b6,cm⟩ cv;rw[c9]at G;replace G:Hid (Calls Tryz.prog 31 #[some g,c] w3 fun e w'=>e= .returned (.pointer (some ⟨x3.qs c.toNat,0,.none⟩))/\Below w3.heap.size w3 w'):=hd' G;have b4:WdTq (fun q=>q=x3.qs) B F W2 w3 g s d1:=⟨⟨x3,bw,rfl⟩,cb,bz⟩;clear cf lO tO bw cb bz;replace b4:=hd' b4;go_upto_region 6 with(first|(go_at_call 31;(with_reducible refine G.out.mono ?_);rintro r w4 ⟨rfl,bp⟩));have c6:=b4.out.below bm (fun i hi=>⟨(y i hi).1,by have:=(y i hi).2;omega⟩) bp;have tA4:=tA3.below bp;generalize x3.qs=Q at *;clear b4 G bp hT tA3;have O:∀ i,z5k s<=i->∃ k,(d1.goN s c i).kl c=some k/\k.job=none:=fun i hi=>by obtain⟨k,J,h2,_⟩:=ya0 (zz6 z i) (yav z hD i) (by unfold z5k at hi;omega);exact⟨k,J,h2⟩
 have hM:z5k s<=8000:=by unfold z5k;have:=ho.fi.bd;omega
 have cp:0<=c/\c<s.c:=⟨b6,c7⟩;generalize z5k s=M at *;replace O:=hd' O;go_wp2;go_loopw [11] (fun bx wr=>∃ i:Nat,i<=M/\bx= .int .i64 i/\WdTq (fun q=>q=Q) B F W2 wr g s (d1.goN s c i)) (fun bx _=>M-(intOf bx).toNat);case atStart=>exact⟨0,Nat.zero_le _,rfl,c6⟩
 case round=>
  clear c6 tA4;obtain⟨i,hi,rfl,hT⟩:=hrel;have T:=zz6 z (c:=c) i;have ch:=yav z hD i;have cd:=tA.only hT.2.1 c4;have b8:=fun k J h2=>yfl (s:=s) (d:=d1) (c:=c) (i:=i) (k:=k) J h2 (M-i);rw[show i+(M-i)=M by omega]at b8;have bu:=fun k J h2=>(z5n (s:=s) (d:=d1.goN s c i) (c:=c) (k:=k) J h2:(d1.goN s c i).goS s c=_);have R:d1.goN s c (i+1)=(d1.goN s c i).goS s c:=rfl;have D:=O.out i;obtain⟨k,hk,bn⟩:=ch;replace E:=E.out;generalize d1.goN s c i=di at *;have b3:=hT;obtain⟨⟨x',V,ba⟩,e4,cg⟩:=hT;replace ba:x'.qs=Q:=ba;have bv:di.l.getD c.toNat none=some k:=by have J:=hk;unfold Wd.kl at J;rw[if_pos b6]at J;exact J
  have C:∀ Y,Below wr.heap.size wr Y->Calls Tryz.prog 32 #[.pointer (some ⟨Q c.toNat,0,.none⟩)] Y fun e w'=>e= .returned (.bool k.rests)/\w'=Y:=fun Y hb=>by have J:=zyp ((V.below hb).cl c.toNat k bv);rw[ba]at J;exact J
  have Z:∀ Y,Below wr.heap.size wr Y->Calls Tryz.prog 17 #[some g,.agg #[.int .i64 3,c,.int .i64 0,.int .i64 0,.int .i64 0,.float .f64 0]] Y fun e w'=>e= .returned (.int .i64 (di.act s (zjx c)).2)/\WdTq (fun q=>q=Q) B (grow F W2 wr) wr w' g s (di.act s (zjx c)).1:=fun Y hb=>by refine(yg6 (V.below hb) (by have:=hb.size;omega) T (by omega) c cp).mono fun e w' h=>⟨h.1,?_⟩;have h2:=h.2;rw[ba]at h2;exact WdTq.from V cg hb h2
  have e0:=cd.cell;have lA:=cd.lt;have e1:(0:Int)<=(i:Int):=by omega
  replace Z:=hd' Z;by_cases hr:k.job=none
  ·have ca:k.rests=true:=by unfold Kl.rests;rw[hr];rfl
   rw[ca]at C;have b0:Told di c:=bn.elim (fun h=>absurd hr h.1) (fun h=>h.2);have bs:b1=di:=E.trans (b8 k hk hr);have cc:di.tr.length<=100000000:=by have:=T.tr;omega
   have bc:=fun Y (hb:Below wr.heap.size wr Y)=>yg2 (V.below hb) cc c b0;have N:∀ Y,Below wr.heap.size wr Y->WdTo B F W Y g s di:=fun Y hb=>S.out _ _ (b3.below bm (fun j hj=>⟨(y j hj).1,by have:=(y j hj).2;omega⟩) hb).to;obtain⟨le,cu,bj⟩:=hidv (ygv di);rw[<-bj]at bc;clear bj;replace bs:=hd' bs;clear E b8 bu R D b3 V T bn hk bv b0 cc hr ca;replace bc:=hd' bc;replace C:=hd' C;replace N:=hd' N;by_cases cx:i<M;all_goals
    have bk:(i:Int)<(M:Int)\/¬ (i:Int)<(M:Int):=by omega
    first
     |(have y:(i:Int)<(M:Int):=by omega)
     |(have y:¬ (i:Int)<(M:Int):=by omega)
    clear bk;go_upto_region 11 with(first|(go_at_call 45;(with_reducible refine(b7.out _).mono ?_);rintro r w5 ⟨rfl,U⟩)|(go_at_call 32;(with_reducible refine(C.out _ U).mono ?_);rintro r w6 ⟨rfl,b2⟩;obtain rfl:=b2.symm)|(go_at_call 33;(with_reducible refine(bc.out _ U).mono ?_);rintro r w7 ⟨ck,v,rfl,bb,e9,cap,m,rfl,e2,e3,lb,y0,y1,y7⟩));have b1:((m:Int)+1==0)=false:=by rw[beq_eq_false_iff_ne];omega
    have wm:IntKind.i64.wrap (m:Int)=(m:Int):=IntWalk.i64_in _ ⟨by omega,by omega⟩;have eb:IntKind.i64.wrap ((m:Int)+1-1)=(m:Int):=IntWalk.i64_in _ ⟨by omega,by omega⟩ |>.trans (by omega);have e6:(0:Int)<=(m:Int):=by omega
    have e7:(m:Int)<(m:Int)+1:=by omega
    have bg:=zab U ck;go_wp2_with (first|(go_at_call 32;(with_reducible refine(C.out _ bg).mono ?_);rintro r w6 ⟨rfl,b2⟩;obtain rfl:=b2.symm));go_returns;rw[bs.out,<- cu.out];exact⟨rfl,N.out _ bg⟩
  have c8:k.rests=false:=by
   unfold Kl.rests;rcases hj:k.job with _|j
   ·exact absurd hj hr
   rfl
  rw[c8]at C;have cx:i<M:=by
   rcases Nat.lt_or_ge i M with J|J
   ·exact J
   obtain⟨k',b9,cs⟩:=D J;rw[hk]at b9;injection b9 with b9;exact absurd (b9 ▸ cs) hr
  have bk:(i:Int)<(M:Int):=by omega
  have ea:IntKind.i64.wrap ((i:Int)+1)=(i:Int)+1:=IntWalk.i64_in _ ⟨by omega,by omega⟩
  have L:∀ Y,WdTq (fun q=>q=Q) B (grow F W2 wr) wr Y g s (di.act s (zjx c)).1->∃ i':Nat,i'<=M/\Value.int .i64 ((i:Int)+1)= .int .i64 i'/\WdTq (fun q=>q=Q) B F W2 Y g s (d1.goN s c i'):=fun Y h=>⟨i+1,by omega,by go_num,by
   rw[R,bu k hk hr]
   exact WdTq.trans b3.to h⟩
  replace L:=hd' L;replace C:=hd' C;clear b3 V T bn E b8 bu R D hk bv hr c8;go_wp2_with (first|(go_at_call 45;(with_reducible refine(b7.out _).mono ?_);rintro r w5 ⟨rfl,U⟩)|(go_at_call 32;(with_reducible refine(C.out _ U).mono ?_);rintro r w6 ⟨rfl,b2⟩;obtain rfl:=b2.symm)|(go_at_call 17;(with_reducible refine(Z.out _ U).mono ?_);rintro r w7 ⟨rfl,cj⟩));exact⟨L.out _ cj,by simp only[intOf];omega⟩
end

end

end Go.Proofs.YtkbddndcegpllaaGreat
