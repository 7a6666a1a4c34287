
import Derived.Test.YtkilokkopbajkaaGreatBw45

set_option linter.all false
set_option maxHeartbeats 8000000
set_option maxRecDepth 100000
namespace Go.Proofs.YtkilokkopbajkaaGreat

open RowKit

attribute [local go_sem ↓] wp_at_zero wp_at_succ

section

theorem Mdl.base{T E:TypeId}{B b:Nat}{w:World}{s:Nat}{W:Int}(h:Mdl T E B w s (.slice none 0 0) W [])(f:b<=B):Mdl T E b w s (.slice none 0 0) W []:=
 ⟨Nat.le_trans f h.lies,h.head,⟨rfl,.inl ⟨rfl,rfl⟩⟩,h.apart,h.ok,h.small⟩
theorem yrt:(Tryz.prog.info? 135).map (λi=>(i.zero,i.size,i.bytes))=some (some (.agg #[.bool false,.bool false,.bool false,.bool false,.bool false,.bool false,.int .i64 0,.int .i64 0,.int .i64 0,.int .i64 0]),10,40):=by kernel_rfl
theorem yph(n:Nat):madeCells #[.bool false,.bool false,.bool false,.bool false,.bool false,.bool false,.int .i64 0,.int .i64 0,.int .i64 0,.int .i64 0] (n*10)=(rpsC (List.replicate n Pt.zero)).toArray:=by
 apply Array.toList_inj.1;apply List.ext_getElem?;intro x;rcases Nat.lt_or_ge x (n*10) with b|b
 .obtain⟨i,j,f,rfl⟩:∃i j:Nat,j<10/\x=i*10+j:=⟨x/10,x%10,by omega,by omega⟩;have h1:=qS (List.replicate n Pt.zero) i j (by rw[List.length_replicate];omega) f;rw[List.getElem_replicate]at h1;show _=(rpsC (List.replicate n Pt.zero))[i*10+j]?;rw[h1];have h2:(i*10+j)%10=j:=by omega
  simp only[madeCells,Array.toList_map,List.getElem?_map,Array.toList_range,List.getElem?_range b,Option.map_some];show some (_[(i*10+j)%10]!)=_;rw[h2];have:j=0\/j=1\/j=2\/j=3\/j=4\/j=5\/j=6\/j=7\/j=8\/j=9:=by omega
  rcases this with rfl|rfl|rfl|rfl|rfl|rfl|rfl|rfl|rfl|rfl<;>rfl
 have h1:(rpsC (List.replicate n Pt.zero)).length=n*10:=by rw[xS,List.length_replicate]
 rw[List.getElem?_eq_none (by rw[Array.length_toList,size_madeCells];exact b),List.getElem?_eq_none (by simp only[];omega)]
theorem ynf(n:Nat)(l:n<=12):∀u:World,(Instr.makeSlice 80 (.int .i64 (n:Int)) (.int .i64 (n:Int))).run Tryz.prog u=.ok (.slice (some ⟨u.heap.size,0,.none⟩) n n) (u.alloc (.cells (rpsC (List.replicate n Pt.zero)).toArray 135)):=λu=>by
 obtain⟨j,hi,b,f,i⟩:=info_parts yrt
 have h:=run_make (P:=Tryz.prog) u 80 135 j _ Tryz.underlying80 hi b .i64 .i64 (n:Int) (n:Int) (by omega) (Int.le_refl _) (by rw[i];omega) (by omega)
 rw[Int.toNat_natCast]at h
 rw[<-yph n]
 simpa[f,Value.cells] using h
def XS (w w':World) (r:Ending) (J:Jd):Prop:=∃jb s pb,r=.returned (.pointer (some ⟨jb,0,.none⟩))/\Below w.heap.size w w'/\JrA w.heap.size w' jb s pb (.slice none 0 0) J
theorem ynt{p c m:Int}(hm:mayB p c m=true)(w:World):
  Calls Tryz.prog 32 #[.agg #[p,c,m]] w λr w'=>XS w w' r (newJ p c m):=by
 have F:=hd' (λn X=>IR n X);have j:=λX=>pG p c m X;have b1:=(Below.refl w.heap.size w).alloc lr (.cells #[p,c,m] 23);have t1:=jA w (.cells #[p,c,m] 23);obtain⟨JR,J⟩:∃JR,Hid (JR=newJ p c m):=⟨_,hd' rfl⟩;rw[<-J];have hJ:JR=⟨p*64,[],List.replicate c.toNat Pt.zero,0,-1,0⟩:=by rw[J];unfold newJ;rw[jP hm]
 have b6:(1<=p/\p<=64)/\(1<=c/\c<=12):=by have:=JA.1 hm;omega
 obtain⟨hp,hc⟩:=b6;obtain⟨H,hH,T⟩:=hidv w.heap.size;go_in;go_upto_region 1 with fail;generalize w.alloc (.cells #[p,c,m] 23)=W at*;rw[<-T]at t1|-;clear T;have lH:H<W.heap.size:=(jE t1);go_upto_region 2 with(go_at_call 22;refine(F _ _).mono ?_;rintro r w1 ⟨rfl,y,M⟩);have bh:=y.size;have S:=y.alloc y.size (.cells #[some W.heap.size,.slice none 0 0,.int .i64 0,.int .i64 (-1),.int .i64 0] 84);have b5:RM W.heap.size (w1.alloc (.cells #[some W.heap.size,.slice none 0 0,.int .i64 0,.int .i64 (-1),.int .i64 0] 84)) W.heap.size (.slice none 0 0) (capW 0) []:=M.below (br.alloc lr _);have tj:=jA w1 (.cells #[some W.heap.size,.slice none 0 0,.int .i64 0,.int .i64 (-1),.int .i64 0] 84);obtain⟨jb,bc,E⟩:=hidv w1.heap.size;have b9:W.heap.size<w1.heap.size:=M.lt;rw[<-E]at tj b9|-;generalize w1.alloc (.cells #[some W.heap.size,.slice none 0 0,.int .i64 0,.int .i64 (-1),.int .i64 0] 84)=V at*;have bk:w.heap.size<=H:=by have:=hH.out;omega
 have bm:w.heap.size<=W.heap.size:=b1.size;clear E M y;have lV:jb<V.heap.size:=(jE tj);have d0:V.cell? ⟨H,0,.none⟩=some (.int .i64 p):=kA S _ _ _ (iA t1 0);have d1:V.cell? ⟨H,1,.none⟩=some (.int .i64 c):=kA S _ _ _ (iA t1 1);have d2:V.cell? ⟨H,2,.none⟩=some (.int .i64 m):=kA S _ _ _ (iA t1 2);have bV:=b1.trans (S.mono b1.size);rw[hm]at j;replace j:=hd' j;obtain⟨cn,b4⟩:∃cn:Nat,c=(cn:Int):=⟨c.toNat,by omega⟩;subst b4;rw[Int.toNat_natCast]at hJ;have ba:=wrp (p*64);have D:capW (p*64)=p*64:=by unfold capW;rw[jN (by omega)]
 have bf:=ynf cn (by omega);go_wp2_with fail;refine(j _).mono ?_;rintro r w2 ⟨rfl,hw⟩;have b:Below V.heap.size V w2:=hw▸br.alloc lr _;clear hw;have b3:=kA b _ _ _ d0;go_wp2_with fail;refine(F _ _).mono ?_;rintro r G ⟨rfl,z,B⟩;obtain⟨s,hs,R⟩:=hidv w2.heap.size;have bi:=b.size;have b7:=z.size;have bp:jb<s:=by omega
 have b8:w.heap.size<=s:=by have:=bV.size;omega
 rw[D,<- R]at B;have bj:=B.lt;rw[<-R]at z b7|-;have i:Below V.heap.size V G:=b.trans (z.mono (by omega));have o:=(i.block _ lV).trans tj;clear R z b b3 b5 D;have j0:=iA o 0;have j1:=iA o 1;have jf:=KA o;have q:=heap_setCell_same G jb 0 _ _ (.pointer (some ⟨s,0,.none⟩)) o;have I:Below w.heap.size w (G.setCell ⟨jb,0,.none⟩ (.pointer (some ⟨s,0,.none⟩))):=Below.setCell (bV.trans (i.mono bV.size)) (by show w.heap.size<=jb;omega) _;have N:RM s (G.setCell ⟨jb,0,.none⟩ (.pointer (some ⟨s,0,.none⟩))) s (.slice none 0 0) (p*64) []:=B.blocks λk L=>by
  rcases L with rfl|L
  .exact heap_setCell_other G ⟨jb,0,.none⟩ k _ (by simp;omega)
  simp[Value.ownBlock]at L
 have bb:(G.setCell ⟨jb,0,.none⟩ (.pointer (some ⟨s,0,.none⟩))).cell? ⟨H,1,.none⟩=some (.int .i64 (cn:Int)):=by have h1:=kA i _ _ _ d1;have h2:=heap_setCell_other G ⟨jb,0,.none⟩ H (.pointer (some ⟨s,0,.none⟩)) (by simp;omega);simp only[World.cell?,h2]at h1|-;exact h1
 go_upto_region 4 with fail;clear i o j0 j1 jf B;generalize G.setCell ⟨jb,0,.none⟩ (.pointer (some ⟨s,0,.none⟩))=Y at*;replace q:Y.heap[jb]?=some (.cells #[some s,.slice none 0 0,.int .i64 0,.int .i64 (-1),.int .i64 0] 84 (0,0)):=q;have b0:jb<Y.heap.size:=(jE q);have bn:s<Y.heap.size:=N.lt;have bA:=(Below.refl Y.heap.size Y).alloc lr (.cells (rpsC (List.replicate cn Pt.zero)).toArray 135);have O:RrP (Y.alloc (.cells (rpsC (List.replicate cn Pt.zero)).toArray 135)) Y.heap.size (List.replicate cn Pt.zero):=jA Y _;have C:=(bA.block _ b0).trans q;have Z:=N.below bA;have j1:=iA C 1;have jf:=KA C;obtain⟨pb,bg,l⟩:=hidv Y.heap.size;rw[<-l]at O
 have U:Hid (XS w ((Y.alloc (.cells (rpsC (List.replicate cn Pt.zero)).toArray 135)).setCell ⟨jb,1,.none⟩ (.slice (some ⟨Y.heap.size,0,.none⟩) cn cn)) (.returned (.pointer (some ⟨jb,0,.none⟩))) JR):=hd' (by
  rw[hJ,<- l]
  refine⟨jb,s,pb,rfl,Below.setCell (I.trans (bA.mono I.size)) (by show w.heap.size<=jb;omega) _,?_⟩
  refine⟨?_,?_,?_,⟨by omega,by omega⟩,by omega,by omega,by omega,by simp[Value.ownBlock],by simp[Value.ownBlock]⟩
  .rw[heap_setCell_same _ jb 1 _ _ _ C]
   show some (Obj.cells #[some s,.slice (some ⟨pb,0,.none⟩) cn cn,.int .i64 0,.int .i64 (-1),.int .i64 0] _ _)=_
   unfold rvV
   rw[List.length_replicate]
  .exact(Z.base b8).blocks λk L=>by
    rcases L with rfl|L
    .exact heap_setCell_other _ ⟨jb,1,.none⟩ k _ (by simp;omega)
    .simp[Value.ownBlock]at L
  .exact O.of_block (heap_setCell_other _ ⟨jb,1,.none⟩ pb _ (by simp;omega)))
 clear hJ J O q C N Z I bA l bV b1 S tj;go_wp2;go_ret;have hf:=U.out;rw[World.setCell_alloc_past _ _ _ _ b0]at hf;exact hf
theorem yne{p c m:Int}(hm:mayB p c m=true)(v:Value)(es:List Ev)(w:World)(hr:RdE w v es)(hl:es.length<=100000000)(hw:(runJ (newJ p c m) es).why=0):
  Calls Tryz.prog 38 #[.agg #[p,c,m],v] w λr w'=>r=.returned (.agg #[.int .i64 (-1),.int .i64 0])/\Below w.heap.size w w':=by
 have b0:=hd' (λX=>ynt hm X);obtain⟨ao,cap,hv,T,bi,E⟩:=hr.nth;have ba:Hid (∀i,i<=es.length->(0<=(runJ (newJ p c m) (es.take i)).m/\(runJ (newJ p c m) (es.take i)).m<=1000000000)/\(runJ (newJ p c m) (es.take i)).ps.length<=100):=hd' λi hi=>ymv p c m _ (by rw[List.length_take];omega);have D:Hid (∀i (hi:i<es.length),runJ (newJ p c m) (es.take (i+1))=DA (runJ (newJ p c m) (es.take i)) es[i]):=hd' λi hi=>by rw[List.take_succ_eq_append_getElem hi,GR]
 have R:Hid (runJ (newJ p c m) (es.take es.length)=runJ (newJ p c m) es):=hd' (by rw[List.take_length]);have h0:Hid (runJ (newJ p c m) (es.take 0)=newJ p c m):=hd' rfl;have b6:Hid (∀i (hi:i<es.length),NH (runJ (newJ p c m) (es.take i)) es[i]=true):=hd' λi hi=>ynr hw i hi;have S:Hid ((runJ (newJ p c m) es).at'= -1):=hd' ((yq4 hw).trans (yrb p c m));replace hw:=hd' hw;obtain⟨n,hn,Z⟩:=hidv es.length;rw[<-Z]at hv T hl;clear Z;subst hv;replace E:=hd' E;have b1:=(Below.refl w.heap.size w).alloc lr (.cells #[p,c,m] 23);have M:=b1.alloc b1.size (.cells #[.int .i64 0,.int .i64 0] 82);obtain⟨t1,t2,bk,_⟩:=vE w (.cells #[p,c,m] 23) (.cells #[.int .i64 0,.int .i64 0] 82);obtain⟨H,hH,N⟩:=hidv w.heap.size;obtain⟨K,hK,O⟩:∃K,Hid (K=w.heap.size+1)/\K=w.heap.size+1:=⟨_,hd' rfl,rfl⟩;go_in;go_upto_region 1 with fail;generalize (w.alloc (.cells #[p,c,m] 23)).alloc (.cells #[.int .i64 0,.int .i64 0] 82)=W at*;try rw[<-O]at t2|-
 rw[<-N]at t1|-;clear N O;have lK:K<W.heap.size:=(jE t2);have lH:H<W.heap.size:=(jE t1);have bg:=iA t1;go_wp2_with fail;refine(b0 W).mono ?_;rintro r w1 ⟨jb,s,pb,rfl,b5,U⟩;obtain⟨B,hB⟩:∃B,B=W.heap.size:=⟨_,rfl⟩;rw[<-hB]at U;obtain⟨V,rfl⟩:∃V:World,V=w1:=⟨_,rfl⟩;have b3:W.heap.size<=B:=by omega
 have bh:B<=W.heap.size:=by omega
 clear hB;have bf:w.heap.size<=W.heap.size:=M.size;clear b1;go_wp2_with fail;go_loopw [6] (λvi wr=>∃(i:Nat) (sl:Value),i<=n/\vi=.int .i64 i/\JrA B wr jb s pb sl (runJ (newJ p c m) (es.take i))/\Below W.heap.size W wr) (λvi _=>n-(intOf vi).toNat);case atStart=>exact⟨0,_,Nat.zero_le _,rfl,by rw[h0];exact U,b5⟩
 case round=>
  obtain⟨i,sl,hi,rfl,J,q⟩:=hrel;obtain⟨Y,rfl⟩:∃V:World,V=wr:=⟨_,rfl⟩;by_cases b9:i<n
  .have bc:(i:Int)<(n:Int):=by omega
   have bj:(0:Int)<=(i:Int):=by omega
   have bm:IntKind.i64.wrap ((i:Int)+1)=(i:Int)+1:=IntWalk.i64_in _ ⟨by omega,by omega⟩;have C:i<es.length:=hn.out▸b9;obtain⟨b,o,b4,hb,hc⟩:=E (λe=>by rw[e]at C;simp at C);subst b4;have hc:=hc i C;obtain⟨e,he⟩:∃e,es[i]=e:=⟨_,rfl⟩;have z:=b6 i C;have D:=D i C;rw[he]at hc D z;have F:=ba i (by omega);have l:=M.trans (q.mono M.size);have x0:Y.cell? ⟨b,o+i*8,.none⟩=some (.int .i64 e.k):=kA l _ _ _ (hc 0 (by omega));have x1:Y.cell? ⟨b,o+i*8+1,.none⟩=some (.int .i64 e.c):=kA l _ _ _ (hc 1 (by omega));have x2:Y.cell? ⟨b,o+i*8+2,.none⟩=some (.int .i64 e.ok):=kA l _ _ _ (hc 2 (by omega));have x3:Y.cell? ⟨b,o+i*8+3,.none⟩=some (.int .i64 e.oa):=kA l _ _ _ (hc 3 (by omega));have x4:Y.cell? ⟨b,o+i*8+4,.none⟩=some (.int .i64 e.on):=kA l _ _ _ (hc 4 (by omega));have x5:Y.cell? ⟨b,o+i*8+5,.none⟩=some (.int .i64 e.at'):=kA l _ _ _ (hc 5 (by omega));have x6:Y.cell? ⟨b,o+i*8+6,.none⟩=some (.int .i64 e.n):=kA l _ _ _ (hc 6 (by omega));have x7:Y.cell? ⟨b,o+i*8+7,.none⟩=some (.int .i64 e.er):=kA l _ _ _ (hc 7 (by omega));have L:=J;have G:=yn5 L e z F.1 F.2;unfold Ev.val Ev.cells at G;have I:=q;have y:Hid (∀w',GC B Y w' jb s pb sl (DA (runJ (newJ p c m) (es.take i)) e)->∃(j:Nat) (sl:Value),j<=n/\Value.int .i64 ((i:Int)+1)=.int .i64 j/\JrA B w' jb s pb sl (runJ (newJ p c m) (es.take j))/\Below W.heap.size W w'):=hd' λw' hL=>by obtain⟨⟨bb,b8,_⟩,ho⟩:=hL;refine⟨i+1,bb,by omega,by go_num,by rw[D];exact b8,I.trans (ho.below (by have:=I.size;omega) λk hk=>Nat.le_trans b3 ((L.yqj k hk).1))⟩
   replace G:=hd' G;clear hc D he J q l L I F;go_wp2_with (go_at_call 33;refine G.out.mono ?_;rintro r w4 ⟨rfl,hL⟩);exact⟨y _ hL,by simp[intOf];omega⟩
  have b7:i=n:=by omega
  subst b7;rw[hn,R]at J;have tK:=(q.block _ lK).trans t2;have r0:=(iA tK 0).trans (show _=some (.int .i64 0) from rfl);have r1:=(iA tK 1).trans (show _=some (.int .i64 0) from rfl);have rF:=KA tK;have y3:=J.h3;have y4:=J.h4;rw[S]at y3;rw[hw]at y4;have y:Hid (Below w.heap.size w ((Y.setCell ⟨K,0,.none⟩ (.int .i64 (-1))).setCell ⟨K,1,.none⟩ (.int .i64 0))):=hd' (((M.trans (q.mono M.size)).setCell (p:=⟨K,0,.none⟩) (by have:=hK.out;show w.heap.size<=K;omega) _).setCell (p:=⟨K,1,.none⟩) (by have:=hK.out;show w.heap.size<=K;omega) _);have lj:jb<Y.heap.size:=J.lt;clear tK J;go_wp2;exact bodyPost_ret (v:=.agg #[.int .i64 (-1),.int .i64 0]) (by simp[results,Tryz.results38,go_sem,r0,r1]) rfl ⟨rfl,y.out⟩
attribute [local go_sem ↓] yk5

theorem yot(s:Sh)(xs:List Ch)(v:Value)(W:World)(hr:RdS W 6 v xs.length (xs.flatMap Ch.cells)):
  Calls Tryz.prog 6 #[.agg #[s.p,s.c,s.m],v] W λe w'=>e=.returned (.bool true)/\Below W.heap.size W w':=by
 obtain⟨ao,cap,rfl,fc,h8,_,_⟩:=id hr;obtain⟨n,hn,fm⟩:=hidv xs.length;rw[<-fm]at fc hr|-;clear fm;have bw:=hd' (λi (hi:i<xs.length)=>chAt hn hr hi);clear hr;have g3:=hd' (λY=>rR Y);have O:∀Y,jK 9 #[.slice ao n cap,.int .i64 1000] Y λe w'=>e=.returned (.bool (decide (n<=1000)))/\w'=Y:=λY=>yqy ao n cap 1000 (by omega) Y;have bp:=(Below.refl W.heap.size W).alloc lr (.cells #[s.p,s.c,s.m] 23);have t0:aA (W.alloc (.cells #[s.p,s.c,s.m] 23)) W.heap.size #[s.p,s.c,s.m] 23:=jA _ _;go_in;go_upto_region 3 with(first|(go_at_call 8;refine(g3 _).mono ?_;rintro r w1 ⟨rfl,e8⟩));have t1:=t0.below e8;have b2:=qA bp e8;clear t0 bp e8;obtain⟨H,hH,eu⟩:=hidv W.heap.size;rw[<-eu]at t1|-;clear eu;have lH:=t1.lt;obtain⟨c0,c1,c2⟩:=ci3 s.p s.c s.m t1.cell;by_cases I:¬n<=1000
 .rw[jF I]at O;replace O:=hd' O;clear bw I;go_wp2_with (first|(go_at_call 9;refine(O _).mono ?_;rintro r w2 ⟨rfl,b8⟩;obtain rfl:=b8.symm));go_returns;exact⟨rfl,b2⟩
 replace I:=Decidable.not_not.1 I;rw[jT I]at O;replace O:=hd' O;by_cases fb:s.c<2
 .clear bw I;go_wp2_with (first|(go_at_call 9;refine(O _).mono ?_;rintro r w2 ⟨rfl,b8⟩;obtain rfl:=b8.symm));go_returns;exact⟨rfl,b2⟩
 by_cases M:¬mayB s.p s.c s.m=true
 .have eb:=hd' (λY=>XN s Y M);clear bw I M;go_wp2_with (first|(go_at_call 9;refine(O _).mono ?_;rintro r w2 ⟨rfl,b8⟩;obtain rfl:=b8.symm)|(go_at_call 10;refine(eb _).mono ?_;rintro r w3 ⟨U,rfl⟩));go_returns;exact⟨rfl,qA b2 U⟩
 replace M:=Decidable.not_not.1 M;have gz:=JA.1 M;have gw:=BS M;have bn:=RS M;obtain⟨c,hc,fa⟩:∃c,Hid (c=s.c-1)/\c=s.c-1:=⟨_,hd' rfl,rfl⟩;have fd:0<=c/\c<s.c:=by omega
 have gl:IntKind.i64.wrap (s.c-1)=c:=by rw[fa];exact IntWalk.i64_in _ ⟨by omega,by omega⟩
 clear fa;have f4:=hd' (λi=>RD (ypg (c:=c) bn (xs.take i)) (show 0+(xs.take i).length<=1000 by rw[List.length_take,<- hn];omega));have eb:=hd' (gO (W0:=W) (Kp:=kp1 H (.cells #[s.p,s.c,s.m] 23 (0,0))) M b2 (λk v hk=>by obtain⟨rfl,rfl⟩:=hk;exact t1));go_upto_region 8 with(first|(go_at_call 9;refine(O _).mono ?_;rintro r w2 ⟨rfl,b8⟩;obtain rfl:=b8.symm)|(go_at_call 10;(with_reducible refine eb.out.mono ?_);rintro r w3 ⟨g,vv,rfl,bc,U⟩));generalize ew:kp1 H (.cells #[s.p,s.c,s.m] 23 (0,0))=Kp at*;have ef:Hid (∀(X:World) (d:Wd),IA W g s Kp d X->X.cell? ⟨H,0,.none⟩=some (.int .i64 s.p)/\X.cell? ⟨H,1,.none⟩=some (.int .i64 s.c)/\X.cell? ⟨H,2,.none⟩=some (.int .i64 s.m)/\H<X.heap.size):=hd' λX d hX=>by have h1:=hX.keep (k:=H) (v:=.cells #[s.p,s.c,s.m] 23 (0,0)) (by rw[<-ew];exact⟨rfl,rfl⟩);exact⟨iA h1 0,iA h1 1,iA h1 2,(jE h1)⟩
 clear ew c0 c1 c2 t1 b2 U lH;obtain⟨c0,c1,c2,lH⟩:=ef _ _ bc;go_upto_region 9 with fail;have g0:Hid (oF s c (sB s) (xs.take 0)=sB s):=hd' rfl;clear c0 c1 c2 lH fb gl;go_wp2;go_loopw [8] (λv8 wr=>∃i:Nat,i<=n/\v8=.int .i64 i/\IA W g s Kp (oF s c (sB s) (xs.take i)) wr) (λv8 _=>n-(intOf v8).toNat);case atStart=>exact⟨0,Nat.zero_le _,rfl,by rw[g0];exact bc⟩
 case round=>
  clear bc;obtain⟨i,gd,rfl,G⟩:=hrel;have j:=f4 i;have fg:(0:Int)<=(i:Int):=by omega
  by_cases hi:i<n
  .have h9:(i:Int)<(n:Int):=by omega
   have gq:IntKind.i64.wrap ((i:Int)+1)=(i:Int)+1:=IntWalk.i64_in _ ⟨by omega,by omega⟩;have fi:i<xs.length:=hn.out▸hi;have J:=ymy (s:=s) (c:=c) (d:=sB s) fi;obtain⟨gb,b9,rfl,bx⟩:=bw i fi;obtain⟨hq,zl⟩:=bx W.heap.size wr lr G.ab;generalize oF s c (sB s) (xs.take i)=d at*;generalize hf:xs[i]=xc at*;obtain⟨ck,cc,co,ca,cn,cb⟩:=xc;dsimp only at J;have z0:wr.cell? ⟨gb,b9+i*6,.none⟩=some (.int .i64 ck):=hq 0 (by omega);have z1:wr.cell? ⟨gb,b9+i*6+1,.none⟩=some (.int .i64 cc):=hq 1 (by omega);have z2:wr.cell? ⟨gb,b9+i*6+2,.none⟩=some (.int .i64 co):=hq 2 (by omega);have z3:wr.cell? ⟨gb,b9+i*6+3,.none⟩=some (.int .i64 ca):=hq 3 (by omega);have z4:wr.cell? ⟨gb,b9+i*6+4,.none⟩=some (.int .i64 cn):=hq 4 (by omega);have z5:wr.cell? ⟨gb,b9+i*6+5,.none⟩=some (.float .f64 cb):=hq 5 (by omega);have ec:=hd' (λX=>znm ⟨ck,cc,co,ca,cn,cb⟩ X);replace ec:Hid (∀X,jK 12 #[.agg #[ck,cc,co,ca,cn,.float .f64 cb]] X λe w'=>e=.returned (.agg #[ck,cc,co,ca,cn,.float .f64 cb])/\Below X.heap.size X w'):=ec;have b4:=hd' λX (hb:Below wr.heap.size wr X)=>CI (G.below hb) j.1 (by omega) ck cc co ca cn cb;clear hq bx j;by_cases F:cc=c
   .have ea:(cc !=c)=false:=by rw[F];simp
    have q:oF s c (sB s) (xs.take (i+1))=d:=by rw[J,jN (λe=>e F)]
    clear J F;go_wp2_with fail;exact⟨⟨i+1,by omega,by go_num,by rw[q];exact G⟩,by simp only[intOf];omega⟩
   have ea:(cc !=c)=true:=by simpa using F
   have q:oF s c (sB s) (xs.take (i+1))=(d.act s ⟨ck,cc,co,ca,cn,cb⟩).1:=by rw[J,jP F]
   replace q:=hd' q;clear J F;go_wp2_with (first|(go_at_call 12;refine(ec _).mono ?_;rintro r w6 ⟨rfl,g4⟩)|(go_at_call 11;(with_reducible refine(b4 _ g4).mono ?_);rintro r w7 ⟨rfl,E⟩));exact⟨⟨i+1,by omega,by go_num,by rw[q];exact E⟩,by simp only[intOf];omega⟩
  obtain rfl:i=n:=by omega
  have cr:¬(i:Int)<(i:Int):=by omega
  go_upto_region 14 with fail;have cx:=ymb (yn6 M c) bn (xs.take i);generalize oF s c (sB s) (xs.take i)=d0 at*;have e0:=(mS cx j.1 fd).2;have S:=SD j ⟨1,c,0,0,0,0⟩;have b4:=hd' (CI G j.1 (by omega) 1 c 0 0 0 0);generalize (d0.act s ⟨1,c,0,0,0,0⟩).1=dS at*;generalize (d0.act s ⟨1,c,0,0,0,0⟩).2=er at*;obtain⟨C,B⟩:=ymt e0 S;clear f4 bw cx j bn cr fg gd G e0 hi;go_upto_region 15 with(first|(go_at_call 11;(with_reducible refine b4.out.mono ?_);rintro r w7 ⟨rfl,E⟩));clear b4;have g9:dS.l.length<=12:=by have:=S.1.len;omega
  have eg:=hd' (yoz E (by omega));obtain⟨LL,f0,D⟩:∃LL,Hid (LL=whoL (λ_=>true) dS.l dS.l.length)/\LL=whoL (λ_=>true) dS.l dS.l.length:=⟨_,hd' rfl,rfl⟩;have ek:=pN (λ_=>true) dS.l dS.l.length;rw[<-D]at eg ek C B;clear D f0;go_upto_region 16 with(first|(go_at_call 36;(with_reducible refine eg.out.mono ?_);rintro r w8 ⟨v8,rfl,z,c7⟩));have ez:=E.news z;obtain⟨al,cl,rfl,g8,gu,_,e4⟩:=RdS.lD c7;have fk:Hid (∀X d,IA W g s (kpN Kp w7 w8) d X->∀i (hi:i<LL.length),∃lb lo,al=some ⟨lb,lo,.none⟩/\X.cell? ⟨lb,lo+i,.none⟩=some (.int .i64 LL[i])/\lb<X.heap.size):=hd' λX d hX i hi=>by obtain⟨b,b0,h1,h2,h3⟩:=e4 (by omega);have h4:=(c7.lt b (by rw[h1];rfl)).1;obtain⟨h5,h6⟩:=hX.WS (o:=b0+i) h4 h2;refine⟨b,b0,h1,h5.trans ((h3 i (by omega)).trans ?_),h6⟩;rw[List.getElem?_map,List.getElem?_eq_getElem hi];rfl
  have cm:Hid (∀(X:World) (d:Wd),IA W g s (kpN Kp w7 w8) d X->X.cell? ⟨H,0,.none⟩=some (.int .i64 s.p)/\X.cell? ⟨H,1,.none⟩=some (.int .i64 s.c)/\X.cell? ⟨H,2,.none⟩=some (.int .i64 s.m)/\H<X.heap.size):=hd' λX d hX=>ef X d (hX.imp λk v h=>.inl h);clear ef eg E z c7 e4;generalize kpN Kp w7 w8=Kq at*;obtain⟨nL,cq,cz⟩:=hidv LL.length;rw[<-cz]at g8 ek|-;clear cz;have gv:nL<=12:=by omega
  have f5:=hd' (λi=>RD (rS (c:=c) (LL.take i) S) (show 1000+1+(LL.take i).length<=2000 by rw[List.length_take];have:=cq.out;omega));have ev:Hid (pE s c dS (LL.take 0)=dS):=hd' rfl;have cv:Hid (LL.take nL=LL):=hd' (by rw[cq];exact List.take_length);replace B:=hd' B;replace C:=hd' C;replace S:=hd' S;clear g9 ek;go_wp2;go_loopw [10] (λel wr=>∃i:Nat,i<=nL/\el=.int .i64 i/\IA W g s Kq (pE s c dS (LL.take i)) wr) (λel _=>nL-(intOf el).toNat);case atStart=>exact⟨0,Nat.zero_le _,rfl,by rw[ev];exact ez⟩
  case round=>
   clear ez;obtain⟨i,hi,rfl,G⟩:=hrel;have j:=f5 i;have fg:(0:Int)<=(i:Int):=by omega
   by_cases gh:i<nL
   .have fl:(i:Int)<(nL:Int):=by omega
    have gq:IntKind.i64.wrap ((i:Int)+1)=(i:Int)+1:=IntWalk.i64_in _ ⟨by omega,by omega⟩;have fh:i<LL.length:=by have:=cq.out;omega
    have c5:=ymu (s:=s) (c:=c) (d:=dS) fh;obtain⟨lb,lo,rfl,z0,zl⟩:=fk _ _ G i fh;generalize LL[i]=y at*;generalize pE s c dS (LL.take i)=dx at*;have b4:=hd' (CI G j.1 (by omega) 4 y 0 0 0 0);unfold NG at c5;by_cases F:y=c
    .have ea:(y !=c)=false:=by rw[F];simp
     have q:pE s c dS (LL.take (i+1))=dx:=by rw[c5,jN (λe=>e F)]
     clear c5 F j;go_wp2_with fail;exact⟨⟨i+1,by omega,by go_num,by rw[q];exact G⟩,by simp only[intOf];omega⟩
    have ea:(y !=c)=true:=by simpa using F
    have q:pE s c dS (LL.take (i+1))=(dx.act s ⟨4,y,0,0,0,0⟩).1:=by rw[c5,jP F]
    replace q:=hd' q;clear c5 F j G;go_wp2_with (first|(go_at_call 11;(with_reducible refine b4.out.mono ?_);rintro r w7 ⟨rfl,E⟩));exact⟨⟨i+1,by omega,by go_num,by rw[q];exact E⟩,by simp only[intOf];omega⟩
   obtain rfl:i=nL:=by omega
   have cr:¬(i:Int)<(i:Int):=by omega
   rw[cv]at G j;replace C:=C.out;replace B:=B.out;generalize pE s c dS LL=dK at*;have ed:=zS j C.1 B;have fp:=hd' (nS G j (by omega) c fd);obtain⟨c0,c1,c2,lH⟩:=cm _ _ G;clear fk f5 ev cv cq C B G j S;generalize rG s c dK=R at*;go_upto_region 22 with(first|(go_at_call 13;(with_reducible refine fp.out.mono ?_);rintro r w9 ⟨rfl,cd⟩));obtain⟨V,rfl⟩:∃V:World,V=w9:=⟨_,rfl⟩;clear c0 c1 c2 lH cr fp;have cg:=ed.ai;obtain⟨L,f0,D⟩:∃L,Hid (L=(jdOf s R).l)/\(jdOf s R).l=L:=⟨_,hd' rfl,rfl⟩;have bv:=λZ v hv=>MR cg v Z hv;have b6:=yrh ed;have T:=λk (hk:k<(jdOf s R).l.length)=>HS cg (b6 k (by omega)) hk;have bu:(jdOf s R).l.length<=1024:=by
    rw[<-yJ cg];unfold Hp.bl;split
    .have h1:=(hpOf s R.m).eO (hpOf s R.m).p.toNat;have h2:(hpOf s R.m).p=s.p:=rfl;rw[h2]at h1|-;omega
    exact Nat.zero_le _
   rw[D]at bv b6 T bu;obtain⟨nl,eh,c6⟩:∃nl,Hid (nl=L.length)/\L.length=nl:=⟨_,hd' rfl,rfl⟩
   replace bv:Hid (∀Z v,RdZ .u64 Z v R.m.ws->jK 34 #[.agg #[s.p,s.c,s.m],v] Z λe w'=>Below Z.heap.size Z w'/\∃ao cap,e=.returned (.slice ao nl cap)/\nl<=cap/\(cap:Int)<=9223372036854775807/\
    Hid (∀k (hk:k<L.length),∃b b0,ao=some ⟨b,b0,.none⟩/\(Z.heap.size<=b/\b<w'.heap.size)/\w'.cell? ⟨b,b0+k*2,.none⟩=some (.int .i64 (L[k]).a)/\w'.cell? ⟨b,b0+k*2+1,.none⟩=some (.int .i64 (L[k]).n))):=hd' (by rw[<-c6];exact bv)
   rw[c6]at bu;have b5:=yqo (b6 L.length lr).en ((b6 L.length lr).bl.trans (by rw[D,List.drop_length]));have f3:=(b6 L.length lr).en.ai;have b7:=(b6 L.length lr).bl.trans (by rw[D,List.drop_length]);rw[D,List.take_length]at b5 f3 b7
   have f6:Hid (∀k,k<=nl->AI s (twL s c R (L.take k)) 20000000):=hd' λk hk=>RD (m:=20000000) (by have h1:=(b6 k (by omega)).en.ai;rwa [D]at h1) (by
    have:k*(2*(1+GA s))<=1024*16002:=Nat.mul_le_mul (by omega) (by omega)
    omega)
   have bh:Hid (∀Z,jW V Z->jK 15 #[some g] Z λe w'=>∃v',e=.returned v'/\Below Z.heap.size Z w'/\RdZ .u64 w' v' R.m.ws):=hd' λZ hZ=>tJ (cd.below hZ);have bz:Hid (∀Z,jW V Z->Z.cell? ⟨H,0,.none⟩=some (.int .i64 s.p)/\Z.cell? ⟨H,1,.none⟩=some (.int .i64 s.c)/\Z.cell? ⟨H,2,.none⟩=some (.int .i64 s.m)/\H<Z.heap.size):=hd' λZ hZ=>cm _ _ (cd.below hZ);have z:Hid (Below V.heap.size V V.drew):=hd' br.drew;obtain⟨c0,c1,c2,lH⟩:=bz _ br;replace T:=hd' T;replace b5:=hd' b5;replace b7:=hd' b7;clear D c6 b6 ed cg
   have cy:Hid (∀k (hk:k<L.length),AI s (askW s (twL s c R (L.take k)) c ⟨2,(L[k]).a,0⟩) 20000000):=hd' λk hk=>RD (T k hk).2.2.2.2.2 (by
    have h1:=eh.out
    have:(k+1)*(2*(1+GA s))<=1024*16002:=Nat.mul_le_mul (by omega) (by omega)
    omega)
   have fn:Hid (∀k (hk:k<L.length),twL s c R (L.take (k+1))=askW s (askW s (twL s c R (L.take k)) c ⟨2,(L[k]).a,0⟩) c ⟨2,(L[k]).a,0⟩):=hd' λk hk=>AS hk
   go_region_held3 (λY=>Y.cell? ⟨H,0,.none⟩=some (.int .i64 s.p)/\Y.cell? ⟨H,1,.none⟩=some (.int .i64 s.c)/\Y.cell? ⟨H,2,.none⟩=some (.int .i64 s.m)/\H<Y.heap.size)
    (first|exact bz _ z.out|exact bz _ b3|exact bz _ bq)
    (first|(go_at_call 15;(with_reducible refine(bh _ z.out).mono ?_);rintro r w9 ⟨v9,rfl,bs,c8⟩;have b3:=z.out.trans (bs.mono z.out.size))|(go_at_call 34;refine(bv _ _ c8).mono ?_;rintro r w0 ⟨bp,ab,cb,rfl,h7,gs,hR⟩;have bq:=b3.trans (bp.mono b3.size)))
   have bk:=cd.news bq;have gi:=b3.size;have e9:Hid (∀X d,IA W g s (kpN Kq V w0) d X->∀k (hk:k<L.length),∃bb bo,ab=some ⟨bb,bo,.none⟩/\X.cell? ⟨bb,bo+k*2,.none⟩=some (.int .i64 (L[k]).a)/\bb<X.heap.size):=hd' λX d hX k hk=>by obtain⟨b,b0,h1,h2,h3,_⟩:=hR k hk;obtain⟨h5,h6⟩:=hX.WS (b:=b) (o:=b0+k*2) (by omega) h2.2;exact⟨b,b0,h1,h5.trans h3,h6⟩
   have cp:Hid (∀(X:World) (d:Wd),IA W g s (kpN Kq V w0) d X->X.cell? ⟨H,0,.none⟩=some (.int .i64 s.p)/\X.cell? ⟨H,1,.none⟩=some (.int .i64 s.c)/\X.cell? ⟨H,2,.none⟩=some (.int .i64 s.m)/\H<X.heap.size):=hd' λX d hX=>cm X d (hX.imp λk v h=>.inl h);clear cm bz bh bv z bs c8 bp hR bq b3 gi c0 c1 c2 lH cd;generalize kpN Kq V w0=Kr at*;have f1:Hid (twL s c R (L.take 0)=R):=hd' rfl;go_wp2;go_loopw [12] (λem wr=>∃k:Nat,k<=nl/\em=.int .i64 k/\IA W g s Kr (twL s c R (L.take k)) wr) (λem _=>nl-(intOf em).toNat);case atStart=>exact⟨0,Nat.zero_le _,rfl,by rw[f1];exact bk⟩
   case round=>
    clear bk;obtain⟨k,hk,rfl,G⟩:=hrel;have j:=f6 k hk;have ha:(0:Int)<=(k:Int):=by omega
    by_cases gh:k<nl
    .have fl:(k:Int)<(nl:Int):=by omega
     have hj:IntKind.i64.wrap ((k:Int)+1)=(k:Int)+1:=IntWalk.i64_in _ ⟨by omega,by omega⟩;have c4:k<L.length:=by have:=eh.out;omega
     obtain⟨_,s1,s2,s3,s4,_⟩:=T k c4;have cu:=cy k c4;have J:=fn k c4;obtain⟨bb,bo,f7,z0,zl⟩:=e9 _ _ G k c4;have bf:Hid (∀X d,IA W g s Kr d X->X.cell? ⟨H,0,.none⟩=some (.int .i64 s.p)/\X.cell? ⟨H,1,.none⟩=some (.int .i64 s.c)/\X.cell? ⟨H,2,.none⟩=some (.int .i64 s.m)/\X.cell? ⟨bb,bo+k*2,.none⟩=some (.int .i64 (L[k]).a)/\H<X.heap.size/\bb<X.heap.size):=hd' λX d hX=>by obtain⟨k0,k1,k2,k3⟩:=cp _ _ hX;obtain⟨hg,hh,e1,e2,e3⟩:=e9 _ _ hX k c4;rw[f7]at e1;injection e1 with e1;injection e1 with e1 fx;subst e1 fx;exact⟨k0,k1,k2,e2,k3,e3⟩
     subst f7;rw[J]at s4;generalize (L[k]).a=a at*;have f2:Hid (∀X,jW wr X->jK 18 #[some g,.agg #[s.p,s.c,s.m],c,.agg #[.int .i64 2,a,.int .i64 0]] X λe w'=>e=.returned (.tuple #[.int .i64 0,.bool true])/\IA W g s Kr (askW s (twL s c R (L.take k)) c ⟨2,a,0⟩) w'):=hd' λX hX=>by have h1:=nO (G.below hX) j.1 (by omega) c 2 a 0 s1;rwa [s2]at h1
     have z:Hid (Below wr.heap.size wr wr.drew):=hd' br.drew;have bk:=G.below z.out;obtain⟨c0,c1,c2,z0,lH,lL⟩:=bf _ _ G;replace J:=hd' J;generalize twL s c R (L.take k)=dx at*;generalize ga:askW s dx c ⟨2,a,0⟩=dy at*;clear ga j G zl s1 s2;go_upto_region 26 with fail
     go_region_held3 (λX=>X.cell? ⟨H,0,.none⟩=some (.int .i64 s.p)/\X.cell? ⟨H,1,.none⟩=some (.int .i64 s.c)/\X.cell? ⟨H,2,.none⟩=some (.int .i64 s.m)/\X.cell? ⟨bb,bo+k*2,.none⟩=some (.int .i64 a)/\H<X.heap.size/\bb<X.heap.size)
      (first|exact bf _ _ bk|exact bf _ _ E)
      (first|(go_at_call 18;refine(f2 _ z.out).mono ?_;rintro r w7 ⟨rfl,E⟩))
     have g2:Hid (∀X,jW w7 X->jK 18 #[some g,.agg #[s.p,s.c,s.m],c,.agg #[.int .i64 2,a,.int .i64 0]] X λe w'=>e=.returned (.tuple #[.int .i64 1,.bool true])/\IA W g s Kr (twL s c R (L.take (k+1))) w'):=hd' λX hX=>by have h1:=nO (E.below hX) cu.1 (by omega) c 2 a 0 s3;rwa [s4,<- J.out]at h1
     have bg:Hid (Below w7.heap.size w7 w7.drew):=hd' br.drew;have g1:=E.below bg.out;clear c0 c1 c2 z0 lH lL;obtain⟨c0,c1,c2,z0,lH,lL⟩:=bf _ _ E;clear f2 bk cu s3 s4 E;go_upto_region 27 with fail
     go_region_held3 (λX=>X.cell? ⟨H,0,.none⟩=some (.int .i64 s.p)/\X.cell? ⟨H,1,.none⟩=some (.int .i64 s.c)/\X.cell? ⟨H,2,.none⟩=some (.int .i64 s.m)/\X.cell? ⟨bb,bo+k*2,.none⟩=some (.int .i64 a)/\H<X.heap.size/\bb<X.heap.size)
      (first|exact bf _ _ g1|exact bf _ _ ey)
      (first|(go_at_call 18;refine(g2 _ bg.out).mono ?_;rintro r w6 ⟨rfl,ey⟩))
     go_wp2_with fail;exact⟨⟨k+1,by omega,by go_num,ey⟩,by simp only[intOf];omega⟩
    obtain rfl:k=nl:=by omega
    have cr:¬(k:Int)<(k:Int):=by omega
    have fu:L.take k=L:=by rw[eh,List.take_length]
    rw[fu]at G j;obtain⟨V2,rfl⟩:∃V:World,V=wr:=⟨_,rfl⟩;obtain⟨σ,gR,gG,gB⟩:=b5.out;have b7:=b7.out;clear f3 b5 T f6 cy fn e9 fu f1;generalize twL s c R L=dE at*;have cf:=SD j ⟨4,c,0,0,0,0⟩;have fj:=yp5 j b7 c;have bh:Hid (∀Z,jW V2 Z->jK 15 #[some g] Z λe w'=>∃v',e=.returned v'/\Below Z.heap.size Z w'/\RdZ .u64 w' v' dE.m.ws):=hd' λZ hZ=>tJ (G.below hZ)
    have bi:Hid (∃l:Int,0<=l/\l<=32*s.m/\∀v X,RdZ .u64 X v dE.m.ws->jK 37 #[.agg #[s.p,s.c,s.m],v] X λe w'=>e=.returned (.agg #[.int .i64 (s.p*64-l),.int .i64 0,l,.int .i64 0])/\Below X.heap.size X w'):=hd' (by
     obtain⟨q1,q2,q3,q4,q5⟩:=ym3 gR gG gB
     refine⟨(hpOf s dE.m).count.l,q5,q3,λv X hv=>?_⟩
     have h1:=PQ (hpOf s dE.m) v X hv j.1.fit
     rw[q1,q2,q4]at h1
     exact h1)
    have fs:Hid (∀v X,RdZ .u64 X v dE.m.ws->jK 35 #[.agg #[s.p,s.c,s.m],v] X λe w'=>e=.returned (.bool true)/\Below X.heap.size X w'):=hd' λv X hv=>ypc (hpOf s dE.m) v X hv j.1.fit (pS gR gG) (yrl gR gG);obtain⟨l,gf,gg,bi⟩:=bi.out;replace bi:=hd' bi;have hK:Hid (∀Z,jW V2 Z->Z.cell? ⟨H,0,.none⟩=some (.int .i64 s.p)/\Z.cell? ⟨H,1,.none⟩=some (.int .i64 s.c)/\Z.cell? ⟨H,2,.none⟩=some (.int .i64 s.m)/\H<Z.heap.size):=hd' λZ hZ=>cp _ _ (G.below hZ);clear gB gG gR b7;have gp:=wrp (s.p*64);have gn:=wrp (32*s.m);have gr:=wrp (s.p*64-l);have gc:¬ 32*s.m<l:=by omega
    obtain⟨c0,c1,c2,lH⟩:=hK _ br;go_upto_region 30 with fail;go_cut [17] from 137 to 140 (λgm wx=>∃p:Nat,gm=.pointer (some ⟨p,0,.none⟩)/\p<wx.heap.size/\Below V2.heap.size V2 wx/\wx.cell? ⟨p,0,.none⟩=some (.int .i64 (s.p*64-l))/\wx.cell? ⟨p,1,.none⟩=some (.int .i64 0)/\wx.cell? ⟨p,2,.none⟩=some (.int .i64 l)/\wx.cell? ⟨p,3,.none⟩=some (.int .i64 0));case first=>
     go_region_held3 (λX=>X.cell? ⟨H,0,.none⟩=some (.int .i64 s.p)/\X.cell? ⟨H,1,.none⟩=some (.int .i64 s.c)/\X.cell? ⟨H,2,.none⟩=some (.int .i64 s.m)/\H<X.heap.size)
      (first|exact hK _ (by go_grown))
      (first|(go_at_call 15;(with_reducible refine(bh _ (by go_grown)).mono ?_);rintro r w9 ⟨v9,rfl,bs,c8⟩;have fz:=qA (w:=V2) (by go_grown) bs;have gy:=fz.size;try (have hz:=oB.below (N:=V2.heap.size) (c:=Cn.zero) (jA V2.drew (.cells #[.int .i64 0,.int .i64 0,.int .i64 0,.int .i64 0] 87)) bs;have q0:=hz.c0;have q1:=hz.c1;have q2:=hz.c2;have q3:=hz.c3;have qF:=hz.fr))|(go_at_call 37;refine(bi _ _ (by first|exact c8|exact c8.below (br.alloc lr _))).mono ?_;rintro r w7 ⟨rfl,bg⟩;have fy:=qA (w:=V2) (by go_grown) bg;have gx:=fy.size;try (first|(have hz:=hz.below bg;have q0:=hz.c0;have q1:=hz.c1;have q2:=hz.c2;have q3:=hz.c3;have qF:=hz.fr)|(have hz:=oB.below (N:=w9.heap.size) (c:=Cn.zero) (jA w9 (.cells #[.int .i64 0,.int .i64 0,.int .i64 0,.int .i64 0] 87)) bg;have q0:=hz.c0;have q1:=hz.c1;have q2:=hz.c2;have q3:=hz.c3;have qF:=hz.fr))))
     all_goals (go_wp2_with fail;go_meet)
     all_goals refine⟨_,rfl,?_,by go_grown,?_,?_,?_,?_⟩
     all_goals first|go_cell|go_size|(simp;done)|(simp;exact hz.lt)
    case rest=>
     obtain⟨p,rfl,hp,U,n0,n1,n2,n3⟩:=hcut;obtain⟨V3,rfl⟩:∃V:World,V=wc:=⟨_,rfl⟩;have ei:=U.size;have bc:=G.below U;have z:Hid (Below V3.heap.size V3 V3.drew):=hd' br.drew;have bj:Hid (∀Y:World,jW V3 Y->(Y.cell? ⟨H,0,.none⟩=some (.int .i64 s.p)/\Y.cell? ⟨H,1,.none⟩=some (.int .i64 s.c)/\Y.cell? ⟨H,2,.none⟩=some (.int .i64 s.m)/\Y.cell? ⟨p,0,.none⟩=some (.int .i64 (s.p*64-l))/\Y.cell? ⟨p,1,.none⟩=some (.int .i64 0)/\Y.cell? ⟨p,2,.none⟩=some (.int .i64 l)/\Y.cell? ⟨p,3,.none⟩=some (.int .i64 0))):=hd' λY hY=>by obtain⟨k0,k1,k2,_⟩:=hK Y (U.trans (hY.mono ei));exact⟨k0,k1,k2,kA hY _ _ _ n0,kA hY _ _ _ n1,kA hY _ _ _ n2,kA hY _ _ _ n3⟩
     have e5:Hid (∀Z,jW V3 Z->jK 15 #[some g] Z λe w'=>∃v',e=.returned v'/\Below Z.heap.size Z w'/\RdZ .u64 w' v' dE.m.ws):=hd' λZ hZ=>bh Z (U.trans (hZ.mono ei));clear c0 c1 c2 lH;obtain⟨c0,c1,c2,n0,n1,n2,n3⟩:=bj V3 br;clear G bh bi U ei hK;go_upto_region 31 with fail
     go_region_held3 (λY=>Y.cell? ⟨H,0,.none⟩=some (.int .i64 s.p)/\Y.cell? ⟨H,1,.none⟩=some (.int .i64 s.c)/\Y.cell? ⟨H,2,.none⟩=some (.int .i64 s.m)/\Y.cell? ⟨p,0,.none⟩=some (.int .i64 (s.p*64-l))/\Y.cell? ⟨p,1,.none⟩=some (.int .i64 0)/\Y.cell? ⟨p,2,.none⟩=some (.int .i64 l)/\Y.cell? ⟨p,3,.none⟩=some (.int .i64 0))
      (first|exact bj _ z.out|exact bj _ e6|exact bj _ b1)
      (first|(go_at_call 15;(with_reducible refine(e5 _ z.out).mono ?_);rintro r wA ⟨vA,rfl,cj,cs⟩;have b1:=z.out.trans (cj.mono z.out.size))|(go_at_call 35;refine(fs _ _ cs).mono ?_;rintro r wS ⟨rfl,f8⟩;have e6:=b1.trans (f8.mono b1.size)))
     have ex:=bc.below e6;have b4:=hd' (CI ex j.1 (by omega) 4 c 0 0 0 0);generalize (dE.act s ⟨4,c,0,0,0,0⟩).1=dX at*;generalize (dE.act s ⟨4,c,0,0,0,0⟩).2=er at*;clear c0 c1 c2 n0 n1 n2 n3 bc e5 bj z e6 b1 cj f8 cs fs j gp gn gr gc gf gg ex;go_upto_region 34 with(first|(go_at_call 11;(with_reducible refine b4.out.mono ?_);rintro r w5 ⟨rfl,bm⟩));obtain⟨V5,rfl⟩:∃V:World,V=w5:=⟨_,rfl⟩;have ch:Hid (Below V5.heap.size V5 V5.drew):=hd' br.drew;have ba:Hid (∀Z,jW V5 Z->Z.cell? ⟨H,0,.none⟩=some (.int .i64 s.p)/\Z.cell? ⟨H,1,.none⟩=some (.int .i64 s.c)/\Z.cell? ⟨H,2,.none⟩=some (.int .i64 s.m)/\H<Z.heap.size):=hd' λZ hZ=>cp _ _ (bm.below hZ);have fw:Hid (∀Z,jW V5 Z->jK 15 #[some g] Z λe w'=>∃v',e=.returned v'/\Below Z.heap.size Z w'/\RdZ .u64 w' v' dX.m.ws):=hd' λZ hZ=>tJ (bm.below hZ);have f9:Hid (∀v Z,RdZ .u64 Z v dX.m.ws->jK 34 #[.agg #[s.p,s.c,s.m],v] Z λe w'=>∃ao cap,e=.returned (.slice ao 0 cap)/\Below Z.heap.size Z w'):=hd' λv Z hv=>by have h1:=MR cf v Z hv;rw[fj]at h1;exact h1.mono λe w' ⟨q1,ao,cap,q2,_⟩=>⟨ao,cap,q2,q1⟩
     have ej:dX.tr.length<=100000000:=by have:=cf.1.tr;omega
     have fv:Hid (∀Z,jW V5 Z->jK 26 #[some g] Z λe w'=>∃v',e=.returned v'/\Below Z.heap.size Z w'/\RdE w' v' dX.tr):=hd' λZ hZ=>iS (bm.below hZ) ej;have fq:Hid (∀v X,RdE X v dX.tr->jK 38 #[.agg #[s.p,s.c,s.m],v] X λe w'=>e=.returned (.agg #[.int .i64 (-1),.int .i64 0])/\Below X.heap.size X w'):=hd' λv X hv=>yne M v dX.tr X hv ej (yq0 cf);have es:=hd' bm.ab;obtain⟨c0,c1,c2,lH⟩:=ba _ br;clear bm cf fj cp ej
     go_region_held3 (λY=>Y.cell? ⟨H,0,.none⟩=some (.int .i64 s.p)/\Y.cell? ⟨H,1,.none⟩=some (.int .i64 s.c)/\Y.cell? ⟨H,2,.none⟩=some (.int .i64 s.m)/\H<Y.heap.size)
      (first|exact ba _ ch.out|exact ba _ ep|exact ba _ e7|exact ba _ c9|exact ba _ b1)
      (first|(go_at_call 15;(with_reducible refine(fw _ ch.out).mono ?_);rintro r wA ⟨vA,rfl,cj,cs⟩;have b1:=ch.out.trans (cj.mono ch.out.size))|(go_at_call 34;refine(f9 _ _ cs).mono ?_;rintro r wB ⟨aB,cB,rfl,g5⟩;have c9:=b1.trans (g5.mono b1.size))|(go_at_call 26;(with_reducible refine(fv _ c9).mono ?_);rintro r wT ⟨vT,rfl,g7,gj⟩;have e7:=c9.trans (g7.mono c9.size))|(go_at_call 38;refine(fq _ _ gj).mono ?_;rintro r wR ⟨rfl,g6⟩;have ep:=e7.trans (g6.mono e7.size)))
     go_wp2_with fail;go_returns;exact⟨rfl,es.out.trans (ep.mono es.out.size)⟩
end

end Go.Proofs.YtkilokkopbajkaaGreat
