/- Lemmas for the claim. -/
import Derived.Test.YtmmbicppdjgbmaaGreatBw38

import Derived.Test.YtmmbicppdjgbmaaGreatBw43

import Derived.Test.YtmmbicppdjgbmaaGreatBw49

set_option linter.all false
set_option maxHeartbeats 4000000
set_option maxRecDepth 100000
namespace Go.Proofs.YtmmbicppdjgbmaaGreat

section

open Go.RowKit

attribute [local go_sem ↓] Go.wp_at_zero Go.wp_at_succ

attribute [local go_sem] QL

theorem znm(c:Ch)(W:World):Calls Tryz.prog 10 #[.agg c.cells.toArray] W fun e w'=>e= .returned (.agg c.cells.toArray)/\Below W.heap.size W w':=by
 obtain⟨m,l,n,i,cn,j⟩:=c;show Calls Tryz.prog 10 #[.agg #[m,l,n,i,cn,.float .f64 j]] W fun e w'=>e= .returned (.agg #[m,l,n,i,cn,.float .f64 j])/\Below W.heap.size W w';go_in;go_wp2_with fail;have o:(W.alloc (.cells #[m,l,n,i,cn,.float .f64 j] 39)).heap.size=W.heap.size+1:=by simp
 have t:aA ((W.alloc (.cells #[m,l,n,i,cn,.float .f64 j] 39)).alloc (.cells #[m,l,n,i,cn,.float .f64 j] 37)) (W.heap.size+1) #[m,l,n,i,cn,.float .f64 j] 37:=by have h:=heap_alloc_new (W.alloc (.cells #[m,l,n,i,cn,.float .f64 j] 39)) (.cells #[m,l,n,i,cn,.float .f64 j] 37);rw[o]at h;exact h
 have hb:Below W.heap.size W ((W.alloc (.cells #[m,l,n,i,cn,.float .f64 j] 39)).alloc (.cells #[m,l,n,i,cn,.float .f64 j] 37)):=by go_grown
 generalize (W.alloc (.cells #[m,l,n,i,cn,.float .f64 j] 39)).alloc (.cells #[m,l,n,i,cn,.float .f64 j] 37)=X at *;generalize W.heap.size+1=H at *;obtain⟨r0,r1,p,q,r⟩:=ci5 m l n i cn t.cell;have s:=ce (.float .f64 j) (t.cell 5);exact bodyPost_ret (v:= .agg #[m,l,n,i,cn,.float .f64 j]) (by simp[results,Tryz.results10,go_sem,r0,r1,p,q,r,s]) rfl ⟨rfl,hb⟩
end

section

open Go.RowKit

attribute [local go_sem ↓] Go.wp_at_zero Go.wp_at_succ

theorem chAt{W:World}{xs:List Ch}{ao:Option Addr}{n cap:Nat}(G:n=xs.length)(B:RdS W 6 (.slice ao n cap) n (xs.flatMap Ch.cells)){i:Nat}(hi:i<xs.length):∃ j f,ao=some ⟨j,f,.none⟩/\∀ H X,W.heap.size<=H->Below H W X->(∀ k,k<6->X.cell? ⟨j,f+i*6+k,.none⟩=xs[i].cells[k]?)/\j<X.heap.size:=by
 obtain⟨r,o,e,q,t,F,m⟩:=B;injection e with s C D;subst s;obtain⟨j,f,rfl,y,l⟩:=m (by omega);refine⟨j,f,rfl,fun H X E hb=>⟨fun k z=>?_,by have:=hb.size;omega⟩⟩;have h1:X.cell? ⟨j,f+i*6+k,.none⟩=W.cell? ⟨j,f+i*6+k,.none⟩:=hb.cell (p:=⟨j,_,.none⟩) (show j<H by omega);rw[h1,Nat.add_assoc,l _ (by omega)];exact UM xs i hi k z
end

section

theorem yn1(p c m:Int)(es:List Ev)(h:es.length<=100000):(0<=(runJ (newJ p c m) es).m/\(runJ (newJ p c m) es).m<=1000000)/\(runJ (newJ p c m) es).ps.length<=100:=by
 have h1:=eS p c m;have h2:=ES (newJ p c m) es;rw[ZR];omega
end

section

open Go.RowKit

attribute [local go_sem ↓] Go.wp_at_zero Go.wp_at_succ

def wC (f:Pt->Pt) (i:Nat) (ps:List Pt):List Pt:=(ps.take i).map f ++ ps.drop i
theorem NN(f:Pt->Pt)(i:Nat)(ps:List Pt):(wC f i ps).length=ps.length:=by
 unfold wC;rw[List.length_append,List.length_map,List.length_take,List.length_drop];omega
theorem ymx(f:Pt->Pt)(ps:List Pt):wC f 0 ps=ps:=by simp[wC]
theorem yn6(f:Pt->Pt)(ps:List Pt):wC f ps.length ps=ps.map f:=by simp[wC]
theorem yon(f:Pt->Pt)(i:Nat)(ps:List Pt)(h:i<ps.length):(wC f i ps)[i]'(by rw[NN];exact h)=ps[i]:=by
 unfold wC;have j:((ps.take i).map f).length=i:=by rw[List.length_map,List.length_take];omega
 rw[List.getElem_append_right (by omega),List.getElem_drop];congr 1;omega
theorem ymz(f:Pt->Pt)(i:Nat)(ps:List Pt)(h:i<ps.length):wC f (i+1) ps=(wC f i ps).set i (f ps[i]):=by
 unfold wC;have j:((ps.take i).map f).length=i:=by rw[List.length_map,List.length_take];omega
 rw[List.set_append_right _ _ (by omega),j,Nat.sub_self];have h1:ps.drop i=ps[i]::ps.drop (i+1):=(List.getElem_cons_drop h).symm;rw[h1,List.set_cons_zero];have h2:ps.take (i+1)=ps.take i++[ps[i]]:=List.take_succ_eq_append_getElem h;rw[h2,List.map_append,List.append_assoc];rfl
def TwAt (w:World) (N:Nat) (a b:Int):Prop:=w.heap[N]?=some (.cells #[a,b] 152 (0,0))
section

variable {w w':World} {N:Nat} {a b:Int}

theorem TwAt.c0(h:TwAt w N a b):w.cell? ⟨N,0,.none⟩=some (.int .i64 a):=iA h 0
theorem TwAt.c1(h:TwAt w N a b):w.cell? ⟨N,1,.none⟩=some (.int .i64 b):=iA h 1
theorem TwAt.fr(h:TwAt w N a b)(i:Nat):w.frozen? ⟨N,i,.none⟩=false:=DA h i
theorem TwAt.lt(h:TwAt w N a b):N<w.heap.size:=(jE h)
theorem TwAt.below(h:TwAt w N a b)(hb:Below w.heap.size w w'):TwAt w' N a b:=(hb.block N h.lt).trans h
end

theorem ypj{W:Int}{l:List Bk}(h:okK W 0 l)(a:Int):∃ x y:Int,blkV (atB l a)= .tuple #[.agg #[x,y],.bool (OA a l)]:=by
 unfold atB;rcases jB (OA a l) with hb|hb
 ·rw[jP hb,hb];obtain⟨h1,h2⟩:=(uG a l).1 hb;rw[List.getElem?_eq_getElem h1];exact⟨_,_,rfl⟩
 rw[jN (by rw[hb];decide),hb];exact⟨0,0,rfl⟩
theorem yqp(pb n:Nat):∃ ao,pvV pb n= .slice ao n n/\(n≠0->ao=some ⟨pb,0,.none⟩):=by
 unfold pvV;by_cases h:n=0
 ·rw[jP h];subst h;exact⟨none,rfl,fun e=>absurd rfl e⟩
 rw[jN h];exact⟨_,rfl,fun _=>rfl⟩
theorem yo4{B:Nat}{w:World}{jb s pb:Nat}{sl:Value}{J:Jd}(h:JgA B w jb s pb sl J)(e:Ev)(hf:e.k=3->e.fit)(hm:0<=J.m/\J.m<=1000000)(hn:J.ps.length<=100):
  Calls Tryz.prog 39 #[some jb,e.val] w fun r w'=>r= .returned (.bool (cF J e))/\Left B w w' jb s pb sl (CA J e):=by
 have cf:∀ W a,(binOp .eql 94 (.pointer (some a)) (.pointer none)).run Tryz.prog W= .ok (.bool false) W:=fun W a=>by kernel_rfl
 have b9:=(Below.refl w.heap.size w).alloc lr (.cells #[e.k,e.c,e.ok,e.oa,e.on,e.at',e.n,e.er] 68);have t1:=jA w (.cells #[e.k,e.c,e.ok,e.oa,e.on,e.at',e.n,e.er] 68);have hJ:=h.below b9;obtain⟨E,hE,b8⟩:=hidv w.heap.size;have o:=yqe hJ e hf;unfold Ev.val Ev.cells at o ⊢;have b5:Hid (∀ W w' JR,jW w W->Left B W w' jb s pb sl JR->Left B w w' jb s pb sl JR):=hd' fun W w' JR hb hl=>by
  obtain⟨⟨cc,M,hk⟩,ho⟩:=hl;refine⟨⟨cc,M,fun k e=>?_⟩,(Only.of_below hb).trans ho fun _ _ e=>e⟩;rcases hk k e with h1|h1
  ·exact .inl h1
  exact .inr (by have:=hb.size;omega)
 by_cases R:J.why=0
 ·have bv:(J.why !=0)=false:=by simpa using R
  have hB:cF J e=decide ((whyJ J.W J.l J.ps e).c=0):=by unfold cF;rw[jT R,Bool.true_and]
  have bm:CA J e=if (whyJ J.W J.l J.ps e).c≠0 then {J with l:=(whyJ J.W J.l J.ps e).l,ps:=(whyJ J.W J.l J.ps e).ps,at':=J.m,why:=(whyJ J.W J.l J.ps e).c} else {J with l:=(whyJ J.W J.l J.ps e).l,ps:=(whyJ J.W J.l J.ps e).ps.map (abP (whyJ J.W J.l J.ps e).l),m:=J.m+1}:=by unfold CA;rw[jN (by omega)]
  rw[hB,bm];clear hB bm;have bw:=YN J.W J.l J.ps e;generalize whyJ J.W J.l J.ps e=y at *;obtain⟨c,D,j⟩:=y;dsimp only at o bw ⊢;by_cases hc:c=0
  ·subst hc;rw[jT rfl,jN (by omega)];replace o:=hd' o;have h4:=hJ.h4;rw[R]at h4;go_in;go_upto_region 1 with fail;generalize w.alloc (.cells #[e.k,e.c,e.ok,e.oa,e.on,e.at',e.n,e.er] 68)=W at *;rw[<-b8]at t1 ⊢;have bz:=iA t1;clear b8;go_upto_region 9 with(go_at_call 76;refine o.out.mono ?_;rintro r w2 ⟨rfl,hL⟩);obtain⟨⟨C,z,b4⟩,b1⟩:=hL;have q2:=z.h2;have qf:=z.fr;have cm:=wrp (J.m+1);have L:Only (atP jb) w2 (w2.setCell ⟨jb,2,.none⟩ (.int .i64 (J.m+1))):=(Only.refl (atP jb) w2).setCell (p:=⟨jb,2,.none⟩) (.inl (show atP jb jb from rfl)) _;have I:=z.setJ (J.m+1) J.at' J.why (w':=w2.setCell ⟨jb,2,.none⟩ (.int .i64 (J.m+1))) (by rw[heap_setCell_same w2 jb 2 _ _ _ z.head];rfl) L;have c7:=b1.trans L fun k _ e=>.inl e;go_upto_region 10 with fail;clear z b1 L q2 qf hJ t1 bz h4 o;generalize w2.setCell ⟨jb,2,.none⟩ (.int .i64 (J.m+1))=V at *;have I:JgA B V jb s pb C {J with l:=D,ps:=j,m:=J.m+1}:=I;have g1:V.cell? ⟨jb,1,.none⟩=some (pvV pb j.length):=I.h1;obtain⟨n,bs,b7⟩:=hidv j.length;have ca:n<=100:=by omega
   rw[<-b7]at g1;obtain⟨ao,bb,bp⟩:=yqp pb n;rw[bb]at g1;have b2:pvV pb j.length= .slice ao n n:=by rw[<-b7];exact bb
   clear bb b7 bw;replace b2:=hd' b2;have ba:Hid (∀ wr,JgA B wr jb s pb C {J with l:=D,ps:=j.map (abP D),m:=J.m+1}->Only (TG jb s pb C) V wr->Left B w wr jb s pb sl {J with l:=D,ps:=j.map (abP D),m:=J.m+1}):=hd' fun wr M ho=>by
    refine b5 W wr _ b9 ⟨⟨C,M,b4⟩,c7.trans ho fun k hk e=>?_⟩;rcases e with e|e|e|e
    ·exact .inl e
    ·exact .inr (.inl e)
    ·exact .inr (.inr (.inl e))
    rcases b4 k e with h1|h1
    ·exact .inr (.inr (.inr h1))
    omega
   go_wp2_with fail;go_loopw [43] (fun vi wr=>∃ i:Nat,i<=n/\vi= .int .i64 i/\JgA B wr jb s pb C {J with l:=D,ps:=wC (abP D) i j,m:=J.m+1}/\Only (TG jb s pb C) V wr) (fun vi _=>n-(intOf vi).toNat);case atStart=>exact⟨0,Nat.zero_le _,rfl,by rw[ymx];exact I,Only.refl _ _⟩
   case round=>
    obtain⟨i,hi,rfl,M,ho⟩:=hrel;obtain⟨Y,rfl⟩:∃ V:World,V=wr:=⟨_,rfl⟩;by_cases cl:i<n
    ·have cd:(i:Int)<(n:Int):=by omega
     have ck:(0:Int)<=(i:Int):=by omega
     have cp:IntKind.i64.wrap ((i:Int)+1)=(i:Int)+1:=IntWalk.i64_in _ ⟨by omega,by omega⟩;have bg:i<j.length:=by have:=bs.out;omega
     have H:i<(wC (abP D) i j).length:=by rw[NN];exact bg
     obtain rfl:=bp (by omega);have U:RowP Y pb (wC (abP D) i j):=M.row (fun e=>by have e:wC (abP D) i j= []:=e;rw[e]at H;simp at H);obtain⟨p,hp⟩:∃ p,j[i]=p:=⟨_,rfl⟩;have O:=yon (abP D) i j bg;rw[hp]at O;have bj:=(U.pt i H).KE O;have y0:=M.h0;have y1:Y.cell? ⟨jb,1,.none⟩=some (.slice (some ⟨pb,0,.none⟩) n n):=by have:=M.h1;rw[show ({J with l:=D,ps:=wC (abP D) i j,m:=J.m+1}:Jd).ps.length=j.length from NN _ _ _,b2]at this;exact this
     have b6:=ymz (abP D) i j bg;rw[hp]at b6;have b0:=fun X (hX:Below Y.heap.size Y X)=>yq9 (M.below hX).model p.a;obtain⟨bx,bn,bc⟩:=ypj M.model.ok p.a;dsimp only at b0 bc;rw[bc]at b0;replace b0:=hd' b0;have y4:=bj.c4;have lj:jb<Y.heap.size:=M.lt;have lp:pb<Y.heap.size:=bj.lt;replace O:=hd' O;replace b6:=hd' b6;replace hp:=hd' hp;clear bc;go_upto_region 13 with fail;go_cut [7,8] (fun vx vo wx=>(∃ N:Nat,vx= .pointer (some ⟨N,0,.none⟩))/\vo= .bool (OA p.a D)/\Below Y.heap.size Y wx);case first=>
      have hK:Hid (∀ X,jW Y X->X.cell? ⟨jb,0,.none⟩=some (.pointer (some ⟨s,0,.none⟩))/\X.cell? ⟨jb,1,.none⟩=some (.slice (some ⟨pb,0,.none⟩) n n)/\X.cell? ⟨pb,i*10+4,.none⟩=some (.int .i64 p.a)):=hd' fun X hb=>⟨kA hb _ _ _ y0,kA hb _ _ _ y1,kA hb _ _ _ y4⟩
      go_region_held3 (fun X=>X.cell? ⟨jb,0,.none⟩=some (.pointer (some ⟨s,0,.none⟩))/\X.cell? ⟨jb,1,.none⟩=some (.slice (some ⟨pb,0,.none⟩) n n)/\X.cell? ⟨pb,i*10+4,.none⟩=some (.int .i64 p.a))
       (first|exact hK _ (by go_grown))
       (first
        |(go_at_call 77;refine(b0 _ (by go_grown)).mono ?_;rintro r w4 ⟨rfl,bq⟩;have c5:=zA (w:=Y) (by go_grown) bq;have ch:=c5.size;
          try (have hz:=TwAt.below (N:=Y.heap.size) (a:=0) (b:=0) (jA Y.drew (.cells #[.int .i64 0,.int .i64 0] 152)) bq;have z0:=hz.c0;have z1:=hz.c1;have zF:=hz.fr)))
      all_goals (go_wp2_with fail;go_meet)
      all_goals exact⟨⟨_,rfl⟩,rfl,by go_grown⟩
     case rest=>
      obtain⟨⟨N,rfl⟩,rfl,b3⟩:=hcut;obtain⟨Z,rfl⟩:∃ V:World,V=wc:=⟨_,rfl⟩;have bh:=M.below b3;have bi:Only (TG jb s pb C) V Z:=ho.trans (Only.of_below (F:=fun _=>False) b3) fun _ _ e=>e.elim;have bk:RowP Z pb (wC (abP D) i j):=U.of_block (b3.block _ U.lt);have T:PtAt Z pb (i*10) p:=(bk.pt i H).KE O.out;have y0:=kA b3 _ _ _ y0;have y1:=kA b3 _ _ _ y1;have y2:=T.c2;have y9:=T.c9;have yf:=T.fr;have q:abP D p=p->∃ S:Nat,S<=n/\Value.int .i64 ((i:Int)+1)= .int .i64 S/\JgA B Z jb s pb C {J with l:=D,ps:=wC (abP D) S j,m:=J.m+1}/\Only (TG jb s pb C) V Z:=fun e=>by
       refine⟨i+1,by omega,by go_num,?_,bi⟩;have:wC (abP D) (i+1) j=wC (abP D) i j:=by rw[b6,e,<- O,List.set_getElem_self]
       rw[this];exact bh
      have G:abP D p= {p with ab:=true}->∃ S:Nat,S<=n/\Value.int .i64 ((i:Int)+1)= .int .i64 S/\JgA B (Z.setCell ⟨pb,i*10+9,.none⟩ (.bool true)) jb s pb C {J with l:=D,ps:=wC (abP D) S j,m:=J.m+1}/\Only (TG jb s pb C) V (Z.setCell ⟨pb,i*10+9,.none⟩ (.bool true)):=fun e=>by have bu:Only (atP pb) Z (Z.setCell ⟨pb,i*10+9,.none⟩ (.bool true)):=(Only.refl _ _).setCell (p:=⟨pb,i*10+9,.none⟩) (.inl (show atP pb pb from rfl)) _;refine⟨i+1,by omega,by go_num,?_,bi.trans bu fun k _ e=>.inr (.inl e)⟩;rw[b6,e];have cb:=bk.set i 9 (.bool true) {p with ab:=true} H (by omega) (by rw[O];rfl);exact bh.setP (qs:=(wC (abP D) i j).set i {p with ab:=true}) (by rw[List.length_set]) cb bu
      replace q:=hd' q;replace G:=hd' G;clear bh bi bk T U bj M ho b0 y4;rcases jB (OA p.a D) with bf|bf
      ·have hh:=hd' (q (by unfold abP;rw[jN (by rw[bf];simp)]));clear q G;go_wp2;exact⟨hh.out,by simp[intOf];omega⟩
      rcases jB p.asks with has|has
      ·have hh:=hd' (G (by unfold abP;rw[jP ⟨bf,has⟩]));clear q G;go_wp2;exact⟨hh.out,by simp[intOf];omega⟩
      have hh:=hd' (q (by unfold abP;rw[jN (by rw[has];simp)]));clear q G;go_wp2;exact⟨hh.out,by simp[intOf];omega⟩
    have c8:i=n:=by omega
    subst c8;rw[bs,yn6]at M;have hL:=hd' (ba _ M ho);clear M ho ba;go_wp2;go_ret;exact⟨rfl,hL.out⟩
  have cj:(c !=0)=true:=by simpa using hc
  rw[jF hc,jP hc];replace o:=hd' o;have h4:=hJ.h4;rw[R]at h4;go_in;go_upto_region 1 with fail;generalize w.alloc (.cells #[e.k,e.c,e.ok,e.oa,e.on,e.at',e.n,e.er] 68)=W at *;rw[<-b8]at t1 ⊢;have cg:=iA t1;clear b8;go_upto_region 7 with(go_at_call 76;refine o.out.mono ?_;rintro r w2 ⟨rfl,hL⟩);obtain⟨⟨C,z,b4⟩,b1⟩:=hL;have q2:=z.h2;have q3:=z.h3;have q4:=z.h4;have qf:=z.fr;have L:Only (atP jb) w2 ((w2.setCell ⟨jb,3,.none⟩ (.int .i64 J.m)).setCell ⟨jb,4,.none⟩ (.int .i64 c)):=((Only.refl (atP jb) w2).setCell (p:=⟨jb,3,.none⟩) (.inl (show atP jb jb from rfl)) _).setCell (p:=⟨jb,4,.none⟩) (.inl (show atP jb jb from rfl)) _;have I:=z.setJ J.m J.m c (w':=(w2.setCell ⟨jb,3,.none⟩ (.int .i64 J.m)).setCell ⟨jb,4,.none⟩ (.int .i64 c)) (by rw[heap_setCell_same _ jb 4 _ _ _ (heap_setCell_same w2 jb 3 _ _ _ z.head)];rfl) L;have c6:=hd' (b5 _ _ _ b9 ⟨⟨C,I,b4⟩,b1.trans L fun k _ e=>.inl e⟩);clear I L b1 z b4;go_wp2;go_ret;exact⟨rfl,c6.out⟩
 have bv:(J.why !=0)=true:=by simpa using R
 rw[XQ R,show cF J e=false by unfold cF;rw[jF R];rfl];have h4:=hJ.h4;have hL:Hid (Left B w (w.alloc (.cells #[e.k,e.c,e.ok,e.oa,e.on,e.at',e.n,e.er] 68)) jb s pb sl J):=hd' ⟨⟨sl,hJ,fun k e=>.inl e⟩,Only.of_below b9⟩;clear o b5;go_in;go_wp2;go_ret;exact⟨rfl,hL.out⟩
end

section

open Go.RowKit

attribute [local go_sem ↓] Go.wp_at_zero Go.wp_at_succ

theorem Mdl.baseP{T E:TypeId}{B f:Nat}{w:World}{s:Nat}{W:Int}(h:Mdl T E B w s (.slice none 0 0) W [])(i:f<=B):Mdl T E f w s (.slice none 0 0) W []:=
 ⟨Nat.le_trans i h.lies,h.head,⟨rfl,.inl ⟨rfl,rfl⟩⟩,h.apart,h.ok,h.small⟩
theorem yq2:(Tryz.prog.info? 156).map (fun i=>(i.zero,i.size,i.bytes))=some (some (.agg #[.bool false,.bool false,.bool false,.int .i64 0,.int .i64 0,.int .i64 0,.bool false,.bool false,.int .i64 0,.bool false]),10,56):=by kernel_rfl
theorem yo1(n:Nat):madeCells #[.bool false,.bool false,.bool false,.int .i64 0,.int .i64 0,.int .i64 0,.bool false,.bool false,.int .i64 0,.bool false] (n*10)=(ptsC (List.replicate n Pt.zero)).toArray:=by
 apply Array.toList_inj.1;apply List.ext_getElem?;intro x;rcases Nat.lt_or_ge x (n*10) with f|f
 ·obtain⟨i,j,l,rfl⟩:∃ i j:Nat,j<10/\x=i*10+j:=⟨x/10,x%10,by omega,by omega⟩;have h1:=VR (List.replicate n Pt.zero) i j (by rw[List.length_replicate];omega) l;rw[List.getElem_replicate]at h1;show _=(ptsC (List.replicate n Pt.zero))[i*10+j]?;rw[h1];have h2:(i*10+j)%10=j:=by omega
  simp only[madeCells,Array.toList_map,List.getElem?_map,Array.toList_range,List.getElem?_range f,Option.map_some];show some (_[(i*10+j)%10]!)=_;rw[h2];have:j=0\/j=1\/j=2\/j=3\/j=4\/j=5\/j=6\/j=7\/j=8\/j=9:=by omega
  rcases this with rfl|rfl|rfl|rfl|rfl|rfl|rfl|rfl|rfl|rfl<;>rfl
 have h1:(ptsC (List.replicate n Pt.zero)).length=n*10:=by rw[SR,List.length_replicate]
 rw[List.getElem?_eq_none (by rw[Array.length_toList,size_madeCells];exact f),List.getElem?_eq_none (by simp only[];omega)]
theorem yph(n:Nat)(m:n<=12):∀ u:World,(Instr.makeSlice 149 (.int .i64 (n:Int)) (.int .i64 (n:Int))).run Tryz.prog u= .ok (.slice (some ⟨u.heap.size,0,.none⟩) n n) (u.alloc (.cells (ptsC (List.replicate n Pt.zero)).toArray 156)):=fun u=>by
 obtain⟨l,hi,f,i,j⟩:=info_parts yq2
 have h:=run_make (P:=Tryz.prog) u 149 156 l _ Tryz.underlying149 hi f .i64 .i64 (n:Int) (n:Int) (by omega) (Int.le_refl _) (by rw[j];omega) (by omega)
 rw[Int.toNat_natCast]at h
 rw[<-yo1 n]
 simpa[i,Value.cells] using h
theorem ymu{B:Nat}{w:World}{jb s pb:Nat}{sl:Value}{J:Jd}(h:JgA B w jb s pb sl J):
  Calls Tryz.prog 40 #[some jb] w fun r w'=>r= .returned (.agg #[J.at',J.why])/\Below w.heap.size w w':=by
 have m:∀ W a,(binOp .eql 94 (.pointer (some a)) (.pointer none)).run Tryz.prog W= .ok (.bool false) W:=fun W a=>by kernel_rfl
 have j:=(Below.refl w.heap.size w).alloc lr (.cells #[.int .i64 0,.int .i64 0] 46);have t1:=jA w (.cells #[.int .i64 0,.int .i64 0] 46);have l:=h.below j;have h3:=l.h3;have h4:=l.h4;go_in;go_upto_region 1 with fail;generalize w.alloc (.cells #[.int .i64 0,.int .i64 0] 46)=W at *;obtain⟨H,n,i⟩:=hidv w.heap.size;have o:w.heap.size<=H:=by omega
 rw[<-i]at t1 ⊢;clear i;have r0:=(iA t1 0).trans (show _=some (.int .i64 0) from rfl);have r1:=(iA t1 1).trans (show _=some (.int .i64 0) from rfl);have q:=DA t1;go_wp2;exact bodyPost_ret (v:= .agg #[J.at',J.why]) (by simp[results,Tryz.results40,go_sem,r0,r1]) rfl ⟨rfl,by rw[n];exact(j.setCell (p:=⟨w.heap.size,0,.none⟩) lr _).setCell (p:=⟨w.heap.size,1,.none⟩) lr _⟩
def Made (w w':World) (r:Ending) (J:Jd):Prop:=∃ jb s pb,r= .returned (.pointer (some ⟨jb,0,.none⟩))/\Below w.heap.size w w'/\JgA w.heap.size w' jb s pb (.slice none 0 0) J
theorem ypb(p c m:Int)(w:World):
  Calls Tryz.prog 38 #[.agg #[p,c,m]] w fun r w'=>Made w w' r (newJ p c m):=by
 have O:=hd' (fun n X=>yp9 n X);have i:=fun X=>pC p c m X;have b1:=(Below.refl w.heap.size w).alloc lr (.cells #[p,c,m] 23);have t1:=jA w (.cells #[p,c,m] 23);obtain⟨JR,o⟩:∃ JR,Hid (JR=newJ p c m):=⟨_,hd' rfl⟩;rw[<-o];have F:(mayB p c m=false/\JR=⟨0, [], [],0, -1,0⟩)\/(mayB p c m=true/\JR=⟨p*64, [],List.replicate c.toNat Pt.zero,0, -1,0⟩/\(1<=p/\p<=64)/\(1<=c/\c<=12)):=by
  rcases jB (mayB p c m) with C|C
  ·exact .inr ⟨C,by rw[o];unfold newJ;rw[jP C],by have:=LA.1 C;omega⟩
  exact .inl ⟨C,by rw[o];unfold newJ;rw[jN (by rw[C];decide)]⟩
 obtain⟨H,hH,b4⟩:=hidv w.heap.size;go_in;go_upto_region 1 with fail;generalize w.alloc (.cells #[p,c,m] 23)=W at *;rw[<-b4]at t1 ⊢;clear b4;have lH:H<W.heap.size:=(jE t1);go_upto_region 2 with(go_at_call 75;refine(O _ _).mono ?_;rintro r w1 ⟨rfl,D,U⟩);have bn:=D.size;have b2:=D.alloc D.size (.cells #[some W.heap.size,.slice none 0 0,.int .i64 0,.int .i64 (-1),.int .i64 0] 151);have Z:PM W.heap.size (w1.alloc (.cells #[some W.heap.size,.slice none 0 0,.int .i64 0,.int .i64 (-1),.int .i64 0] 151)) W.heap.size (.slice none 0 0) (capW 0) []:=U.below (br.alloc lr _);have tj:=jA w1 (.cells #[some W.heap.size,.slice none 0 0,.int .i64 0,.int .i64 (-1),.int .i64 0] 151);obtain⟨jb,bj,M⟩:=hidv w1.heap.size;have bg:W.heap.size<w1.heap.size:=U.lt;rw[<-M]at tj bg ⊢;generalize w1.alloc (.cells #[some W.heap.size,.slice none 0 0,.int .i64 0,.int .i64 (-1),.int .i64 0] 151)=V at *;have bb:w.heap.size<=H:=by have:=hH.out;omega
 have bf:w.heap.size<=W.heap.size:=b1.size;clear M U D;have lV:jb<V.heap.size:=(jE tj);have d0:V.cell? ⟨H,0,.none⟩=some (.int .i64 p):=kA b2 _ _ _ (iA t1 0);have d1:V.cell? ⟨H,1,.none⟩=some (.int .i64 c):=kA b2 _ _ _ (iA t1 1);have d2:V.cell? ⟨H,2,.none⟩=some (.int .i64 m):=kA b2 _ _ _ (iA t1 2);have bV:=b1.trans (b2.mono b1.size);rcases F with⟨C,hJ⟩|⟨C,hJ,hp,hc⟩
 ·rw[C]at i;replace i:=hd' i;have q:Hid (∀ X,jW V X->Made w X (.returned (.pointer (some ⟨jb,0,.none⟩))) JR):=hd' fun X hX=>by rw[hJ];refine⟨jb,W.heap.size,H,rfl,bV.trans (hX.mono bV.size),?_⟩;have b9:=Z.below hX;exact⟨(hX.block _ lV).trans tj,b9.baseP bf,fun e=>absurd rfl e,⟨by omega,bb⟩,by have:=hX.size;omega,by omega,by omega,by omega,by simp[Value.ownBlock],by simp[Value.ownBlock]⟩
  clear hJ o Z;go_wp2_with (go_at_call 48;refine(i _).mono ?_;rintro r w2 ⟨rfl,hw⟩);subst hw;go_ret;exact q _ (br.alloc lr _)
 rw[C]at i;replace i:=hd' i;obtain⟨cn,b8⟩:∃ cn:Nat,c=(cn:Int):=⟨c.toNat,by omega⟩;subst b8;rw[Int.toNat_natCast]at hJ;have bh:=wrp (p*64);have L:capW (p*64)=p*64:=by unfold capW;rw[jN (by omega)]
 have bk:=yph cn (by omega);go_wp2_with fail;refine(i _).mono ?_;rintro r w2 ⟨rfl,hw⟩;have j:Below V.heap.size V w2:=hw ▸ br.alloc lr _;clear hw;have b7:=kA j _ _ _ d0;go_wp2_with fail;refine(O _ _).mono ?_;rintro r R ⟨rfl,E,G⟩;obtain⟨s,hs,b3⟩:=hidv w2.heap.size;have bp:=j.size;have ba:=E.size;have bu:jb<s:=by omega
 have bc:w.heap.size<=s:=by have:=bV.size;omega
 rw[L,<- b3]at G;have bq:=G.lt;rw[<-b3]at E ba ⊢;have l:Below V.heap.size V R:=j.trans (E.mono (by omega));have z:=(l.block _ lV).trans tj;clear b3 E j b7 Z L;have j0:=iA z 0;have j1:=iA z 1;have jf:=DA z;have B:=heap_setCell_same R jb 0 _ _ (.pointer (some ⟨s,0,.none⟩)) z;have S:Below w.heap.size w (R.setCell ⟨jb,0,.none⟩ (.pointer (some ⟨s,0,.none⟩))):=Below.setCell (bV.trans (l.mono bV.size)) (by show w.heap.size<=jb;omega) _;have b0:PM s (R.setCell ⟨jb,0,.none⟩ (.pointer (some ⟨s,0,.none⟩))) s (.slice none 0 0) (p*64) []:=G.blocks fun k T=>by
  rcases T with rfl|T
  ·exact heap_setCell_other R ⟨jb,0,.none⟩ k _ (by simp;omega)
  simp[Value.ownBlock]at T
 have bi:(R.setCell ⟨jb,0,.none⟩ (.pointer (some ⟨s,0,.none⟩))).cell? ⟨H,1,.none⟩=some (.int .i64 (cn:Int)):=by have h1:=kA l _ _ _ d1;have h2:=heap_setCell_other R ⟨jb,0,.none⟩ H (.pointer (some ⟨s,0,.none⟩)) (by simp;omega);simp only[World.cell?,h2]at h1 ⊢;exact h1
 go_upto_region 4 with fail;clear l z j0 j1 jf G;generalize R.setCell ⟨jb,0,.none⟩ (.pointer (some ⟨s,0,.none⟩))=Y at *;replace B:Y.heap[jb]?=some (.cells #[some s,.slice none 0 0,.int .i64 0,.int .i64 (-1),.int .i64 0] 151 (0,0)):=B;have b6:jb<Y.heap.size:=(jE B);have bs:s<Y.heap.size:=b0.lt;have bA:=(Below.refl Y.heap.size Y).alloc lr (.cells (ptsC (List.replicate cn Pt.zero)).toArray 156);have I:RowP (Y.alloc (.cells (ptsC (List.replicate cn Pt.zero)).toArray 156)) Y.heap.size (List.replicate cn Pt.zero):=jA Y _;have J:=(bA.block _ b6).trans B;have b5:=b0.below bA;have j1:=iA J 1;have jf:=DA J;obtain⟨pb,bm,y⟩:=hidv Y.heap.size;rw[<-y]at I
 have q:Hid (Made w ((Y.alloc (.cells (ptsC (List.replicate cn Pt.zero)).toArray 156)).setCell ⟨jb,1,.none⟩ (.slice (some ⟨Y.heap.size,0,.none⟩) cn cn)) (.returned (.pointer (some ⟨jb,0,.none⟩))) JR):=hd' (by
  rw[hJ,<- y]
  refine⟨jb,s,pb,rfl,Below.setCell (S.trans (bA.mono S.size)) (by show w.heap.size<=jb;omega) _,?_⟩
  refine⟨?_,?_,fun _=>?_,⟨by omega,by omega⟩,?_,by omega,by omega,by omega,by simp[Value.ownBlock],by simp[Value.ownBlock]⟩
  ·rw[heap_setCell_same _ jb 1 _ _ _ J]
   show some (Obj.cells #[some s,.slice (some ⟨pb,0,.none⟩) cn cn,.int .i64 0,.int .i64 (-1),.int .i64 0] _ _)=_
   unfold pvV
   rw[List.length_replicate,jN (by omega)]
  ·exact(b5.baseP bc).blocks fun k T=>by
    rcases T with rfl|T
    ·exact heap_setCell_other _ ⟨jb,1,.none⟩ k _ (by simp;omega)
    ·simp[Value.ownBlock]at T
  ·exact I.of_block (heap_setCell_other _ ⟨jb,1,.none⟩ pb _ (by simp;omega))
  ·have:=I.lt;simpa[World.setCell] using this)
 clear hJ o I B J b0 b5 S bA y bV b1 b2 tj;go_wp2;go_ret;have hf:=q.out;rw[World.setCell_alloc_past _ _ _ _ b6]at hf;exact hf
theorem ymv{B:Nat}{w:World}{jb s pb:Nat}{sl:Value}{J:Jd}(h:JgA B w jb s pb sl J):∀ k,TG jb s pb sl k->B<=k:=by
 rintro k (rfl|rfl|rfl|e)
 ·exact h.lies.1
 ·exact h.lies.2
 ·exact h.model.lies
 exact(h.model.owns.lt k e).1
theorem ypa(p c m:Int)(v:Value)(es:List Ev)(w:World)(hr:RdE w v es)(hf:∀ e ∈ es,e.k=3->e.fit)(hl:es.length<=100000):
  Calls Tryz.prog 14 #[.agg #[p,c,m],v] w fun r w'=>r= .returned (.agg #[.int .i64 (runJ (newJ p c m) es).at',.int .i64 (runJ (newJ p c m) es).why])/\Below w.heap.size w w':=by
 have b0:=hd' (fun X=>ypb p c m X);obtain⟨ao,cap,hv,R,bn,C⟩:=hr.nth;have bg:Hid (∀ i,i<=es.length->(0<=(runJ (newJ p c m) (es.take i)).m/\(runJ (newJ p c m) (es.take i)).m<=1000000)/\(runJ (newJ p c m) (es.take i)).ps.length<=100):=hd' fun i hi=>yn1 p c m _ (by rw[List.length_take];omega);have z:Hid (∀ i (hi:i<es.length),runJ (newJ p c m) (es.take (i+1))=CA (runJ (newJ p c m) (es.take i)) es[i]):=hd' fun i hi=>by rw[List.take_succ_eq_append_getElem hi,wH]
 have O:Hid (runJ (newJ p c m) (es.take es.length)=runJ (newJ p c m) es):=hd' (by rw[List.take_length]);have ba:Hid (∀ i (hi:i<es.length),(es[i]).k=3->(es[i]).fit):=hd' fun i hi=>hf _ (List.getElem_mem hi);have h0:Hid (runJ (newJ p c m) (es.take 0)=newJ p c m):=hd' rfl;obtain⟨n,hn,Z⟩:=hidv es.length;rw[<-Z]at hv R hl;clear Z;subst hv;replace C:=hd' C;have b1:=(Below.refl w.heap.size w).alloc lr (.cells #[p,c,m] 23);have I:=b1.alloc b1.size (.cells #[.int .i64 0,.int .i64 0] 46);obtain⟨t1,t2,bq,_⟩:=MD w (.cells #[p,c,m] 23) (.cells #[.int .i64 0,.int .i64 0] 46);obtain⟨H,hH,L⟩:=hidv w.heap.size;obtain⟨K,hK,M⟩:∃ K,Hid (K=w.heap.size+1)/\K=w.heap.size+1:=⟨_,hd' rfl,rfl⟩;go_in;go_upto_region 1 with fail;generalize (w.alloc (.cells #[p,c,m] 23)).alloc (.cells #[.int .i64 0,.int .i64 0] 46)=W at *;try rw[<-M]at t2 ⊢
 rw[<-L]at t1 ⊢;clear L M;have lK:K<W.heap.size:=(jE t2);have lH:H<W.heap.size:=(jE t1);have bk:=iA t1;go_wp2_with fail;refine(b0 W).mono ?_;rintro r w1 ⟨jb,s,pb,rfl,b8,U⟩;obtain⟨B,hB⟩:∃ B,B=W.heap.size:=⟨_,rfl⟩;rw[<-hB]at U;obtain⟨V,rfl⟩:∃ V:World,V=w1:=⟨_,rfl⟩;have b4:W.heap.size<=B:=by omega
 have bm:B<=W.heap.size:=by omega
 clear hB;have bj:w.heap.size<=W.heap.size:=I.size;clear b1;go_wp2_with fail;go_loopw [12] (fun vi wr=>∃ (i:Nat) (sl:Value),i<=n/\vi= .int .i64 i/\JgA B wr jb s pb sl (runJ (newJ p c m) (es.take i))/\Below W.heap.size W wr) (fun vi _=>n-(intOf vi).toNat);case atStart=>exact⟨0,_,Nat.zero_le _,rfl,by rw[h0];exact U,b8⟩
 case round=>
  obtain⟨i,sl,hi,rfl,T,o⟩:=hrel;obtain⟨Y,rfl⟩:∃ V:World,V=wr:=⟨_,rfl⟩;by_cases bf:i<n
  ·have bi:(i:Int)<(n:Int):=by omega
   have bp:(0:Int)<=(i:Int):=by omega
   have bs:IntKind.i64.wrap ((i:Int)+1)=(i:Int)+1:=IntWalk.i64_in _ ⟨by omega,by omega⟩;have y:i<es.length:=hn.out ▸ bf;obtain⟨b,off,b7,hb,hc⟩:=C (fun e=>by rw[e]at y;simp at y);subst b7;have hc:=hc i y;obtain⟨e,he⟩:∃ e,es[i]=e:=⟨_,rfl⟩;have S:=ba i y;have z:=z i y;rw[he]at hc S z;have D:=bg i (by omega);have l:=I.trans (o.mono I.size);have x0:Y.cell? ⟨b,off+i*8,.none⟩=some (.int .i64 e.k):=kA l _ _ _ (hc 0 (by omega));have x1:Y.cell? ⟨b,off+i*8+1,.none⟩=some (.int .i64 e.c):=kA l _ _ _ (hc 1 (by omega));have x2:Y.cell? ⟨b,off+i*8+2,.none⟩=some (.int .i64 e.ok):=kA l _ _ _ (hc 2 (by omega));have x3:Y.cell? ⟨b,off+i*8+3,.none⟩=some (.int .i64 e.oa):=kA l _ _ _ (hc 3 (by omega));have x4:Y.cell? ⟨b,off+i*8+4,.none⟩=some (.int .i64 e.on):=kA l _ _ _ (hc 4 (by omega));have x5:Y.cell? ⟨b,off+i*8+5,.none⟩=some (.int .i64 e.at'):=kA l _ _ _ (hc 5 (by omega));have x6:Y.cell? ⟨b,off+i*8+6,.none⟩=some (.int .i64 e.n):=kA l _ _ _ (hc 6 (by omega));have x7:Y.cell? ⟨b,off+i*8+7,.none⟩=some (.int .i64 e.er):=kA l _ _ _ (hc 7 (by omega));have bA:=(Below.refl Y.heap.size Y).alloc lr (.cells #[e.k,e.c,e.ok,e.oa,e.on,e.at',e.n,e.er] 68);have G:=T.below bA;have E:=yo4 G e S D.1 D.2;unfold Ev.val Ev.cells at E;have F:=o.trans (bA.mono o.size);have q:Hid (∀ w',Left B (Y.alloc (.cells #[e.k,e.c,e.ok,e.oa,e.on,e.at',e.n,e.er] 68)) w' jb s pb sl (CA (runJ (newJ p c m) (es.take i)) e)->∃ (j:Nat) (sl:Value),j<=n/\Value.int .i64 ((i:Int)+1)= .int .i64 j/\JgA B w' jb s pb sl (runJ (newJ p c m) (es.take j))/\Below W.heap.size W w'):=hd' fun w' hL=>by obtain⟨⟨bh,bc,_⟩,ho⟩:=hL;refine⟨i+1,bh,by omega,by go_num,by rw[z];exact bc,F.trans (ho.below (by have:=F.size;omega) fun k hk=>Nat.le_trans b4 (ymv G k hk))⟩
   replace E:=hd' E;clear hc z he T o l bA G F D;go_wp2_with (go_at_call 39;refine E.out.mono ?_;rintro r w4 ⟨rfl,hL⟩);exact⟨q _ hL,by simp[intOf];omega⟩
  have bb:i=n:=by omega
  subst bb;rw[hn,O]at T;have b3:=hd' (ymu T);have b5:=(o.block _ lK).trans t2;go_wp2_with fail;refine b3.out.mono ?_;rintro r w4 ⟨rfl,b9⟩;have J:=o.trans (b9.mono o.size);have tK:=(J.block _ lK).trans t2;have r0:=(iA tK 0).trans (show _=some (.int .i64 0) from rfl);have r1:=(iA tK 1).trans (show _=some (.int .i64 0) from rfl);have rF:=DA tK;have b6:=hK.out;have q:Hid (Below w.heap.size w ((w4.setCell ⟨K,0,.none⟩ (.int .i64 (runJ (newJ p c m) es).at')).setCell ⟨K,1,.none⟩ (.int .i64 (runJ (newJ p c m) es).why))):=hd' (((I.trans (J.mono I.size)).setCell (p:=⟨K,0,.none⟩) (by show w.heap.size<=K;omega) _).setCell (p:=⟨K,1,.none⟩) (by show w.heap.size<=K;omega) _);clear b6 b3 tK b5 T;go_wp2;exact bodyPost_ret (v:= .agg #[.int .i64 (runJ (newJ p c m) es).at',.int .i64 (runJ (newJ p c m) es).why]) (by simp[results,Tryz.results14,go_sem,r0,r1]) rfl ⟨rfl,q.out⟩
def sA:Sh:=⟨1,1,0⟩
def cA:Ch:=⟨1,0,0,0,0,0⟩
def cB:Ch:=⟨2,0,2, -1,0,0⟩
def dA:Wd:=((uB sA).act sA cA).1
def dB:Wd:=(dA.act sA cB).1
theorem VY:((uB sA).act sA cA).2=0:=by decide +kernel
theorem TZ:(dA.act sA cB).2=0:=by decide +kernel
theorem yK:dB.tr.length=3/\(dB.tr.flatMap fun e=>e.cells.toList)[16]?=some (.int .i64 5)/\(dB.tr.flatMap fun e=>e.cells.toList)[23]?=some (.int .i64 1):=⟨by decide +kernel,by kernel_rfl,by kernel_rfl⟩
theorem ygl:YF sA dB 0=1:=by decide +kernel
theorem zn0(W:World):Calls Tryz.prog 6 #[] W fun e w'=>e= .returned (.bool true)/\Below W.heap.size W w':=by
 have h0:=OL (s:=sA) (by decide);have h1:wdOk sA dA 1:=KF h0 cA;have h2:wdOk sA dB 2:=KF h1 cB;have j:jK 8 #[.agg #[.int .i64 1,.int .i64 1,.int .i64 0]] W fun e w'=>Below W.heap.size W w'/\∃ g v x,e= .returned (.tuple #[.pointer (some ⟨g,0,.none⟩),.pointer (some ⟨v,0,.none⟩)])/\WdP W.heap.size (fun i=>W.heap.size<=i/\i<w'.heap.size) w' g sA (uB sA) x:=DP sA W (by decide);have S:∀ (p:Nat) (W:World),(binOp .eql 27 (.pointer (some ⟨p,0,.none⟩)) (.pointer none)).run Tryz.prog W= .ok (.bool false) W:=fun p W=>by kernel_rfl
 have n:∀ (F:Nat->Prop) X g x,WdP W.heap.size F X g sA (uB sA) x->W.heap.size<=X.heap.size->jK 9 #[some g,.agg #[.int .i64 1,.int .i64 0,.int .i64 0,.int .i64 0,.int .i64 0,.float .f64 0]] X fun e w'=>e= .returned (.int .i64 0)/\WdTo W.heap.size F X w' g sA dA:=fun F X g x z H=>by have h:=qI z H h0 (by omega) cA;rw[VY]at h;exact h
 have o:∀ (F:Nat->Prop) X g x,WdP W.heap.size F X g sA dA x->W.heap.size<=X.heap.size->jK 9 #[some g,.agg #[.int .i64 2,.int .i64 0,.int .i64 2,.int .i64 (-1),.int .i64 0,.float .f64 0]] X fun e w'=>e= .returned (.int .i64 0)/\WdTo W.heap.size F X w' g sA dB:=fun F X g x z H=>by have h:=qI z H h1 (by omega) cB;rw[TZ]at h;exact h
 have y:∀ (F:Nat->Prop) X g x,WdP W.heap.size F X g sA dB x->jK 12 #[some g] X fun e w'=>Below X.heap.size X w'/\∃ b off cap,e= .returned (.slice (some ⟨b,off,.none⟩) 3 cap)/\3<=cap/\(cap:Int)<=9223372036854775807/\w'.cell? ⟨b,off+16,.none⟩=some (.int .i64 5)/\w'.cell? ⟨b,off+23,.none⟩=some (.int .i64 1):=fun F X g x z=>by refine(aP z (by rw[yK.1];omega)).mono fun e w' ⟨v,h1,h2,h3⟩=>⟨h2,?_⟩;obtain⟨ao,cap,rfl,hc,hm,hl,T⟩:=RdS.AC h3;rw[yK.1]at hc T h1;obtain⟨b,off,rfl,hb,l⟩:=T (by omega);exact⟨b,off,cap,h1,hc,hm,(l 16 (by omega)).trans yK.2.1,(l 23 (by omega)).trans yK.2.2⟩
 have q:∀ (F:Nat->Prop) X g x,WdP W.heap.size F X g sA dB x->jK 25 #[some g,.int .i64 0] X fun e w'=>e= .returned (.int .i64 1)/\Below X.heap.size X w':=fun F X g x z=>by have h:=vP z h2.fi h2.fit 0;rw[ygl]at h;exact h
 replace j:=hd' j;replace n:=hd' n;replace o:=hd' o;replace y:=hd' y;replace q:=hd' q;clear h0 h1 h2;go_in;go_wp2_with (first|(go_at_call 8;(with_reducible refine j.out.mono ?_);rintro r w1 ⟨B,g,v,x,rfl,O⟩;have C:=B.size)|(go_at_call 9;(with_reducible refine(n _ _ _ _ O C).mono ?_);rintro r U ⟨rfl,⟨x2,E⟩,J,D⟩)|(go_at_call 9;(with_reducible refine(o _ _ _ _ E D).mono ?_);rintro r w3 ⟨rfl,⟨x3,G⟩,L,M⟩)|(go_at_call 12;(with_reducible refine(y _ _ _ _ G).mono ?_);rintro r w4 ⟨m,b,off,cap,rfl,Z,b0,b1,b4⟩;have R:=G.below m)|(go_at_call 25;(with_reducible refine(q _ _ _ _ R).mono ?_);rintro r w5 ⟨rfl,I⟩));go_returns;have V:Below W.heap.size w1 U:=J.below C (fun i hi=>hi.1);have Y:Below W.heap.size U w3:=L.below D (fun i hi=>(E.lt i hi).1);have h4:=m.size;exact⟨rfl,B.trans (V.trans (Y.trans ((m.mono M).trans (I.mono (by omega)))))⟩
end

end Go.Proofs.YtmmbicppdjgbmaaGreat
