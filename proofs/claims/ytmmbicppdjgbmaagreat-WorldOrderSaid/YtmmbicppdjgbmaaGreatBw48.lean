/- Lemmas for the claim. -/
import Derived.Deep.CutBlock

import Derived.Test.YtmmbicppdjgbmaaGreatBw47

set_option linter.all false
set_option maxHeartbeats 12000000
set_option maxRecDepth 100000
namespace Go.Proofs.YtmmbicppdjgbmaaGreat

section

open Go.RowKit

attribute [local go_sem ↓] Go.wp_at_zero Go.wp_at_succ

theorem nK{B s p:Nat}{w q f:World}{sl v':Value}{W at' n:Int}{l:List Bk}(h:PM B w s sl W l)(hb:Below w.heap.size w q)(m:iB W l at' n=true)(E:p=posB at' l)(D:f.ownsRow B 152 2 v' (l.length+1) (BA (l.take p++⟨at',n⟩::l.drop p))) (r:q.grownBy f sl.ownBlock) (y:∀ k,v'.ownBlock=some k->sl.ownBlock=some k\/q.heap.size<=k):
  f.heap[s]?=some (.cells #[sl,W] 226 (0,0))/\PM B (f.setCell ⟨s,0,.none⟩ v') s v' W (takeB W l at' n)/\Only (foot s sl) w (f.setCell ⟨s,0,.none⟩ v')/\∀ k,foot s v' k->foot s sl k\/w.heap.size<=k:=by
 have h2:=h.below hb;have o:f.heap[s]?=some (.cells #[sl,W] 226 (0,0)):=(r.block s h2.lt (fun e=>h2.apart e.symm)).trans h2.head;have hs:=hb.size;have j:v'.ownBlock≠some s:=fun e=>by
  rcases y s e with i|i
  ·exact h2.apart i
  have:=h2.lt;omega
 refine⟨o,⟨h.lies,?_,?_,j,WQ h.ok,h.small⟩,?_,fun k b=>?_⟩
 ·rw[heap_setCell_same f s 0 _ _ _ o];rfl
 ·have e:takeB W l at' n=l.take p++⟨at',n⟩::l.drop p:=by unfold takeB putB;rw[jP m,E]
  have C:(takeB W l at' n).length=l.length+1:=by unfold takeB;rw[jP m,qN]
  rw[C,e]
  exact PB D (fun k b=>heap_setCell_other f ⟨s,0,.none⟩ k _ (fun e=>by
   have z:k=s:=e
   subst z
   exact j b))
 ·exact((Only.of_below hb).grown r (fun k b=>.inl (.inr b))).setCell (.inl (.inl rfl)) _
 rcases b with rfl|b
 ·exact .inl (.inl rfl)
 rcases y k b with i|i
 ·exact .inl (.inr i)
 exact .inr (by omega)
theorem yl8{W lo at' n:Int}{l:List Bk}(h:okK W lo l)(b:xE W at' n=true):iB W l at' n= !clash l at' n:=by
 have:1<=n:=by simp only[xE,decide_eq_true_eq]at b;exact b.1
 unfold iB;rw[b,yo3 h this];rfl
theorem ypr{B s:Nat}{w:World}{sl:Value}{W:Int}{l:List Bk}(h:PM B w s sl W l)(at' n:Int)(cy: -9223372036854775808<=at')(cz:at'<=9223372036854775807)(e5: -9223372036854775808<=n)(e6:n<=9223372036854775807):
  Calls Tryz.prog 139 #[some s,at',n] w fun e w'=>e= .returned (.bool (iB W l at' n))/\∃ sl',PM B w' s sl' W (takeB W l at' n)/\Only (foot s sl) w w'/\∀ k,foot s sl' k->foot s sl k\/w.heap.size<=k:=by
 have c1:=h.cell1;have cv:0<=W:=h.ok.le;have cx:=h.small;by_cases hf:xE W at' n=true;case neg=>
  have c4:iB W l at' n=false:=by unfold iB;rw[Bool.eq_false_iff.2 hf];rfl
  have bq:takeB W l at' n=l:=by unfold takeB;rw[jN (by rw[c4];simp)]
  rw[c4,bq];have bi:n<1\/(1<=n/\(at'<0\/(0<=at'/\(W<at'\/(at'<=W/\W-at'<n))))):=by simp only[xE,decide_eq_true_eq]at hf;omega
  clear hf;rcases bi with e1|⟨e1,e2|⟨e2,e3|⟨e3,e4⟩⟩⟩;all_goals go_in;go_wp2;go_ret;exact⟨rfl,_,h,Only.refl _ _,fun k hk=>.inl hk⟩
 case pos=>
  have bc:=hf;simp only[xE,decide_eq_true_eq]at bc;obtain⟨f1,f2,f3,f4⟩:=bc;have y:=yl8 h.ok hf;have X:=h.len;have M:=WJ at' l;have b7:=h.ok.mem;by_cases b9:OA at' l=true
  ·have m:clash l at' n=true:=by unfold clash;rw[b9];rfl
   rw[m]at y;have bq:takeB W l at' n=l:=by unfold takeB;rw[jN (by rw[y];simp)]
   rw[y,bq];go_in;go_wp2_with fail;refine(ZE h at').mono ?_;rintro e o ⟨rfl,i⟩;rw[b9];generalize posB at' l=p at *;go_wp2;go_quiet (fail);go_wp2;go_ret;exact⟨rfl,_,h.below (below_drewN i _),Only.of_below (below_drewN i _),fun k hk=>.inl hk⟩
  have C:OA at' l=false:=by simpa using b9
  obtain⟨ao,cap,e,bx,e0,H⟩:=h.rd.nth;subst e;obtain⟨N,hn,bk⟩:=hidv l.length;rw[<-bk]at bx X M h ⊢;have I:∀ o,jW w o->o.cell? ⟨s,0,.none⟩=some (.slice ao N cap):=fun o hb=>(h.below hb).cell0;have L:∀ o,jW w o->o.ownsRow B 152 2 (.slice ao N cap) N (BA l):=fun o hb=>by have:=(h.below hb).owns;rw[<-bk]at this;exact this
  obtain⟨p,r⟩:∃ p,posB at' l=p:=⟨_,rfl⟩;have e7:p<=N:=by rw[<-r];exact M
  replace r:=hd' r;replace I:=hd' I;replace L:=hd' L;replace y:=hd' y;clear bk M b9 hf;by_cases bb:p<N
  ·have M:p<l.length:=hn.out ▸ bb;obtain⟨b,off,rfl,hb,S⟩:=H (fun e=>by rw[e]at M;simp at M);obtain⟨⟨ba,bn⟩,hA⟩:∃ c,l[p]=c:=⟨_,rfl⟩;obtain⟨x0,x1⟩:=S p M;have bz:=b7 _ (List.getElem_mem M);rw[hA]at x0 x1 bz;have gA:l[p]?=some ⟨ba,bn⟩:=by rw[List.getElem?_eq_getElem M,hA]
   simp only at x0 x1 bz;replace hA:=hd' hA;replace gA:=hd' gA;have e8:IntKind.i64.wrap (ba-at')=ba-at':=by rw[IntKind.wrap_i64];omega
   have cl:(p:Int)<(N:Int):=by omega
   have ck:(0:Int)<=(p:Int):=by omega
   have c5:decide (p<N)=true:=jT bb;by_cases b5:ba-at'<n
   ·have c6:decide (ba-at'<n)=true:=jT b5;have m:clash l at' n=true:=by unfold clash;rw[C,r,gA];simp[b5]
    have Z:Hid (takeB W l at' n=l):=by show _=_;unfold takeB;rw[jN (by rw[y,m];simp)]
    have Y:Hid (iB W l at' n=false):=by show _=_;rw[y,m];rfl
    clear m H S;go_in;go_wp2_with fail;refine(ZE h at').mono ?_;rintro e o ⟨rfl,i⟩;rw[C,r];have R:=I o i;have bs:=kA i _ _ _ x0;have bu:=kA i _ _ _ x1;go_wp2;go_quiet (fail);go_wp2;go_ret;exact⟨by rw[Y];rfl,_,Z.out.symm ▸ h.below (below_drewN i _),Only.of_below (below_drewN i _),fun k hk=>.inl hk⟩
   have c6:decide (ba-at'<n)=false:=jF b5;by_cases bm:p=0
   ·subst bm;simp only[Nat.zero_mul,Nat.add_zero]at x0 x1;have m:clash l at' n=false:=by unfold clash;rw[C,r,gA];simp[b5]
    have z:Hid (iB W l at' n=true):=by show _=_;rw[y,m];rfl
    clear m H S;go_in;go_wp2_with fail;refine(ZE h at').mono ?_;rintro e o ⟨rfl,i⟩;rw[C,r];have R:=I o i;have bs:=kA i _ _ _ x0;have bu:=kA i _ _ _ x1;go_wp2;go_quiet (fail);have D:Below w.heap.size w ((o.alloc (.cells #[at',n] 152)).drewN nq):=below_drewN (i.alloc i.size _) _;have F:=L _ D;have b4:((o.alloc (.cells #[at',n] 152)).drewN nq).heap[o.heap.size]?=some (.cells #[at',n] 152 (0,0)):=jA o _;have O:(Value.slice (some ⟨b,off,.none⟩) N cap).ownBlock≠some o.heap.size:=fun e=>by have:=(h.pE _ e).2;have:=i.size;omega
    have b0:B<=((o.alloc (.cells #[at',n] 152)).drewN nq).heap.size:=by have:=D.size;have:=h.lies;have:=h.lt;omega
    have bf:=I _ D;have bg:(o.drewN nq).cell? ⟨s,0,.none⟩=some (.slice (some ⟨b,off,.none⟩) N cap):=R;go_wp2_with fail;refine(iK (b:=⟨at',n⟩) F hn (by omega) X b0 b4 O).mono ?_;rintro e w3 ⟨v',rfl,E,b1,b2⟩;rw[hn]at E;obtain⟨T,j,n3,b3⟩:∃ T j n3,v'= .slice (some ⟨T,0,.none⟩) n3 j:=by
     rcases E.2 with⟨_,h0⟩|⟨T,j,_,e3,_⟩
     ·omega
     exact⟨T,j,_,e3⟩
    subst b3;obtain⟨G,hP,hO,hF⟩:=nK h D z r.out.symm E b1 b2;have cp:=iA G;have bh:=DA G 0;clear G;go_wp2;go_ret;exact⟨by rw[z];rfl,_,hP,hO,hF⟩
   obtain⟨q,rfl⟩:∃ q,p=q+1:=⟨p-1,by omega⟩;have V:q<l.length:=by have:=hn.out;omega
   obtain⟨⟨ca,cn⟩,hB⟩:∃ c,l[q]=c:=⟨_,rfl⟩;obtain⟨z0,z1⟩:=S q V;have b6:=b7 _ (List.getElem_mem V);rw[hB]at z0 z1 b6;have gB:l[q]?=some ⟨ca,cn⟩:=by rw[List.getElem?_eq_getElem V,hB]
   have b8:=wI at' l q (by have:=r.out;omega) V;rw[hB]at b8;simp only at z0 z1 b6 b8;replace hB:=hd' hB;replace gB:=hd' gB;have c8:(0:Int)<=(q:Int):=by omega
   have cc:(q:Int)<(N:Int):=by omega
   have c9:(q:Int)+1<=(N:Int):=by omega
   have cd:(0:Int)<(q:Int)+1:=by omega
   have cf:((q+1:Nat):Int)-1=(q:Int):=by omega
   have cj:IntKind.i64.wrap ((q:Int)+1-1)=(q:Int):=by rw[show (q:Int)+1-1=(q:Int) from by omega,IntKind.wrap_i64];omega
   have cg:((q:Int)+1).toNat=q+1:=by omega
   have ch:IntKind.i64.wrap (at'-ca)=at'-ca:=by rw[IntKind.wrap_i64];omega
   have c7:decide ((0:Int)<(q:Int)+1)=true:=jT (by omega);have bp:(q:Int)+1<(N:Int):=by omega
   have cb:decide ((q:Int)+1<(N:Int))=true:=jT bp;by_cases U:at'-ca<cn
   ·have bj:decide (at'-ca<cn)=true:=jT U;have m:clash l at' n=true:=by unfold clash;rw[C,r,gA,Nat.add_sub_cancel,gB];simp[b5,U]
    have Z:Hid (takeB W l at' n=l):=by show _=_;unfold takeB;rw[jN (by rw[y,m];simp)]
    have Y:Hid (iB W l at' n=false):=by show _=_;rw[y,m];rfl
    clear m H S;go_in;go_wp2_with fail;refine(ZE h at').mono ?_;rintro e o ⟨rfl,i⟩;rw[C,r];have R:=I o i;have bs:=kA i _ _ _ x0;have bu:=kA i _ _ _ x1;have bv:=kA i _ _ _ z0;have bw:=kA i _ _ _ z1;go_wp2;go_quiet (fail);go_wp2;go_ret;exact⟨by rw[Y];rfl,_,Z.out.symm ▸ h.below (below_drewN i _),Only.of_below (below_drewN i _),fun k hk=>.inl hk⟩
   have bj:decide (at'-ca<cn)=false:=jF U;have m:clash l at' n=false:=by unfold clash;rw[C,r,gA,Nat.add_sub_cancel,gB];simp[b5,U]
   have z:Hid (iB W l at' n=true):=by show _=_;rw[y,m];rfl
   clear m H S;go_in;go_wp2_with fail;refine(ZE h at').mono ?_;rintro e o ⟨rfl,i⟩;rw[C,r];have R:=I o i;have bs:=kA i _ _ _ x0;have bu:=kA i _ _ _ x1;have bv:=kA i _ _ _ z0;have bw:=kA i _ _ _ z1;go_wp2;go_quiet (fail);have D:Below w.heap.size w ((o.alloc (.cells #[at',n] 152)).drewN nq):=below_drewN (i.alloc i.size _) _;have F:=L _ D;have b4:((o.alloc (.cells #[at',n] 152)).drewN nq).heap[o.heap.size]?=some (.cells #[at',n] 152 (0,0)):=jA o _;have O:(Value.slice (some ⟨b,off,.none⟩) N cap).ownBlock≠some o.heap.size:=fun e=>by have:=(h.pE _ e).2;have:=i.size;omega
   have b0:B<=((o.alloc (.cells #[at',n] 152)).drewN nq).heap.size:=by have:=D.size;have:=h.lies;have:=h.lt;omega
   have bf:=I _ D;have bg:(o.drewN nq).cell? ⟨s,0,.none⟩=some (.slice (some ⟨b,off,.none⟩) N cap):=R;go_wp2_with fail;refine(iK (b:=⟨at',n⟩) F hn (by omega) X b0 b4 O).mono ?_;rintro e w3 ⟨v',rfl,E,b1,b2⟩;rw[hn]at E;obtain⟨T,j,n3,b3⟩:∃ T j n3,v'= .slice (some ⟨T,0,.none⟩) n3 j:=by
    rcases E.2 with⟨_,h0⟩|⟨T,j,_,e3,_⟩
    ·omega
    exact⟨T,j,_,e3⟩
   subst b3;obtain⟨G,hP,hO,hF⟩:=nK h D z r.out.symm E b1 b2;have cq:=iA G;have bh:=DA G 0;clear G;go_wp2;go_ret;exact⟨by rw[z];rfl,_,hP,hO,hF⟩
  have gA:l[p]?=none:=List.getElem?_eq_none (by rw[<-hn];omega);replace gA:=hd' gA;have c5:¬ ((p:Int)<(N:Int)):=by omega
  have cm:decide (p<N)=false:=jF bb;have cu:N<=p:=by omega
  clear bb;by_cases bm:p=0
  ·subst bm;have m:clash l at' n=false:=by unfold clash;rw[C,r,gA];simp[]
   have z:Hid (iB W l at' n=true):=by show _=_;rw[y,m];rfl
   clear m H;go_in;go_wp2_with fail;refine(ZE h at').mono ?_;rintro e o ⟨rfl,i⟩;rw[C,r];have R:=I o i;go_wp2;go_quiet (fail);have D:Below w.heap.size w ((o.alloc (.cells #[at',n] 152)).drewN nq):=below_drewN (i.alloc i.size _) _;have F:=L _ D;have b4:((o.alloc (.cells #[at',n] 152)).drewN nq).heap[o.heap.size]?=some (.cells #[at',n] 152 (0,0)):=jA o _;have O:(Value.slice ao N cap).ownBlock≠some o.heap.size:=fun e=>by have:=(h.pE _ e).2;have:=i.size;omega
   have b0:B<=((o.alloc (.cells #[at',n] 152)).drewN nq).heap.size:=by have:=D.size;have:=h.lies;have:=h.lt;omega
   have bf:=I _ D;have bg:(o.drewN nq).cell? ⟨s,0,.none⟩=some (.slice ao N cap):=R;go_wp2_with fail;refine(iK (b:=⟨at',n⟩) F hn (by omega) X b0 b4 O).mono ?_;rintro e w3 ⟨v',rfl,E,b1,b2⟩;rw[hn]at E;obtain⟨T,j,n3,b3⟩:∃ T j n3,v'= .slice (some ⟨T,0,.none⟩) n3 j:=by
    rcases E.2 with⟨_,h0⟩|⟨T,j,_,e3,_⟩
    ·omega
    exact⟨T,j,_,e3⟩
   subst b3;obtain⟨G,hP,hO,hF⟩:=nK h D z r.out.symm E b1 b2;have cr:=iA G;have bh:=DA G 0;clear G;go_wp2;go_ret;exact⟨by rw[z];rfl,_,hP,hO,hF⟩
  have M:0<l.length:=by have:=hn.out;omega
  obtain⟨b,off,rfl,hb,S⟩:=H (fun e=>by rw[e]at M;simp at M);obtain⟨q,rfl⟩:∃ q,p=q+1:=⟨p-1,by omega⟩;have V:q<l.length:=by have:=hn.out;omega
  obtain⟨⟨ca,cn⟩,hB⟩:∃ c,l[q]=c:=⟨_,rfl⟩;obtain⟨z0,z1⟩:=S q V;have b6:=b7 _ (List.getElem_mem V);rw[hB]at z0 z1 b6;have gB:l[q]?=some ⟨ca,cn⟩:=by rw[List.getElem?_eq_getElem V,hB]
  have b8:=wI at' l q (by have:=r.out;omega) V;rw[hB]at b8;simp only at z0 z1 b6 b8;replace hB:=hd' hB;replace gB:=hd' gB;have c8:(0:Int)<=(q:Int):=by omega
  have cc:(q:Int)<(N:Int):=by omega
  have c9:(q:Int)+1<=(N:Int):=by omega
  have cd:(0:Int)<(q:Int)+1:=by omega
  have cf:((q+1:Nat):Int)-1=(q:Int):=by omega
  have cj:IntKind.i64.wrap ((q:Int)+1-1)=(q:Int):=by rw[show (q:Int)+1-1=(q:Int) from by omega,IntKind.wrap_i64];omega
  have cg:((q:Int)+1).toNat=q+1:=by omega
  have ch:IntKind.i64.wrap (at'-ca)=at'-ca:=by rw[IntKind.wrap_i64];omega
  have c7:decide ((0:Int)<(q:Int)+1)=true:=jT (by omega);have bp:¬ ((q:Int)+1<(N:Int)):=by omega
  have cb:decide ((q:Int)+1<(N:Int))=false:=jF bp;by_cases U:at'-ca<cn
  ·have bj:decide (at'-ca<cn)=true:=jT U;have m:clash l at' n=true:=by unfold clash;rw[C,r,gA,Nat.add_sub_cancel,gB];simp[U]
   have Z:Hid (takeB W l at' n=l):=by show _=_;unfold takeB;rw[jN (by rw[y,m];simp)]
   have Y:Hid (iB W l at' n=false):=by show _=_;rw[y,m];rfl
   clear m H S;go_in;go_wp2_with fail;refine(ZE h at').mono ?_;rintro e o ⟨rfl,i⟩;rw[C,r];have R:=I o i;have bv:=kA i _ _ _ z0;have bw:=kA i _ _ _ z1;go_wp2;go_quiet (fail);go_wp2;go_ret;exact⟨by rw[Y];rfl,_,Z.out.symm ▸ h.below (below_drewN i _),Only.of_below (below_drewN i _),fun k hk=>.inl hk⟩
  have bj:decide (at'-ca<cn)=false:=jF U;have m:clash l at' n=false:=by unfold clash;rw[C,r,gA,Nat.add_sub_cancel,gB];simp[U]
  have z:Hid (iB W l at' n=true):=by show _=_;rw[y,m];rfl
  clear m H S;go_in;go_wp2_with fail;refine(ZE h at').mono ?_;rintro e o ⟨rfl,i⟩;rw[C,r];have R:=I o i;have bv:=kA i _ _ _ z0;have bw:=kA i _ _ _ z1;go_wp2;go_quiet (fail);have D:Below w.heap.size w ((o.alloc (.cells #[at',n] 152)).drewN nq):=below_drewN (i.alloc i.size _) _;have F:=L _ D;have b4:((o.alloc (.cells #[at',n] 152)).drewN nq).heap[o.heap.size]?=some (.cells #[at',n] 152 (0,0)):=jA o _;have O:(Value.slice (some ⟨b,off,.none⟩) N cap).ownBlock≠some o.heap.size:=fun e=>by have:=(h.pE _ e).2;have:=i.size;omega
  have b0:B<=((o.alloc (.cells #[at',n] 152)).drewN nq).heap.size:=by have:=D.size;have:=h.lies;have:=h.lt;omega
  have bf:=I _ D;have bg:(o.drewN nq).cell? ⟨s,0,.none⟩=some (.slice (some ⟨b,off,.none⟩) N cap):=R;go_wp2_with fail;refine(iK (b:=⟨at',n⟩) F hn (by omega) X b0 b4 O).mono ?_;rintro e w3 ⟨v',rfl,E,b1,b2⟩;rw[hn]at E;obtain⟨T,j,n3,b3⟩:∃ T j n3,v'= .slice (some ⟨T,0,.none⟩) n3 j:=by
   rcases E.2 with⟨_,h0⟩|⟨T,j,_,e3,_⟩
   ·omega
   exact⟨T,j,_,e3⟩
  subst b3;obtain⟨G,hP,hO,hF⟩:=nK h D z r.out.symm E b1 b2;have cs:=iA G;have bh:=DA G 0;clear G;go_wp2;go_ret;exact⟨by rw[z];rfl,_,hP,hO,hF⟩
end

section

open Go.RowKit

def Pt.cells (p:Pt):List Value:= [.bool p.was,.bool p.lives,.bool p.asks,.int .i64 p.k,.int .i64 p.a,.int .i64 p.n,.bool p.took,.bool p.gave,.int .i64 p.at',.bool p.ab]
theorem Pt.PN(p:Pt):p.cells.length=10:=rfl
def ptsC (ps:List Pt):List Value:=ps.flatMap Pt.cells
theorem SR(ps:List Pt):(ptsC ps).length=ps.length*10:=RL Pt.cells 10 Pt.PN ps
theorem AR(a b:List Pt):ptsC (a++b)=ptsC a++ptsC b:=by simp[ptsC]
theorem VR(ps:List Pt)(i j:Nat)(hi:i<ps.length)(b:j<10):(ptsC ps)[i*10+j]?=(ps[i]).cells[j]?:=NJ Pt.cells 10 Pt.PN ps i j hi b
theorem yor(ps:List Pt)(i j:Nat)(v:Value)(q:Pt)(hi:i<ps.length)(b:j<10)(l:(ps[i]).cells.set j v=q.cells):(ptsC ps).set (i*10+j) v=ptsC (ps.set i q):=by
 have e:ps=ps.take i++ps[i]::ps.drop (i+1):=by rw[List.getElem_cons_drop,List.take_append_drop]
 have f:(ps.take i).length=i:=by rw[List.length_take];omega
 have m:ps.set i q=ps.take i++q::ps.drop (i+1):=by rw[List.set_eq_take_append_cons_drop,jP hi]
 have h1:ptsC ps=ptsC (ps.take i)++((ps[i]).cells++ptsC (ps.drop (i+1))):=by
  conv=>lhs;rw[e]
  rw[AR];rfl
 have h2:ptsC (ps.set i q)=ptsC (ps.take i)++(q.cells++ptsC (ps.drop (i+1))):=by rw[m,AR];rfl
 have h3:(ptsC (ps.take i)).length=i*10:=by rw[SR,f]
 rw[h1,h2,List.set_append_right _ _ (by omega),h3,Nat.add_sub_cancel_left,List.set_append_left _ _ (by rw[Pt.PN];exact b),l]
def RowP (w:World) (pb:Nat) (ps:List Pt):Prop:=w.heap[pb]?=some (.cells (ptsC ps).toArray 156 (0,0))
section

variable {w w':World} {pb:Nat} {ps:List Pt}

theorem RowP.lt(h:RowP w pb ps):pb<w.heap.size:=(jE h)
theorem RowP.of_block(h:RowP w pb ps)(hb:w'.heap[pb]?=w.heap[pb]?):RowP w' pb ps:=hb.trans h
theorem RowP.cell(h:RowP w pb ps)(i j:Nat)(hi:i<ps.length)(b:j<10):w.cell? ⟨pb,i*10+j,.none⟩=(ps[i]).cells[j]?:=by
 rw[iA h,List.getElem?_toArray];exact VR ps i j hi b
theorem RowP.fr(h:RowP w pb ps)(j:Nat):w.frozen? ⟨pb,j,.none⟩=false:=DA h j
theorem RowP.set(h:RowP w pb ps)(i j:Nat)(v:Value)(q:Pt)(hi:i<ps.length)(b:j<10)(f:(ps[i]).cells.set j v=q.cells):RowP (w.setCell ⟨pb,i*10+j,.none⟩ v) pb (ps.set i q):=by
 unfold RowP at *;rw[heap_setCell_same w pb _ _ _ _ h,List.setIfInBounds_toArray,yor ps i j v q hi b f]
end

structure PtAt (w:World) (b o:Nat) (p:Pt):Prop where
 lt:b < w.heap.size
 c0:w.cell? ⟨b,o,.none⟩=some (.bool p.was)
 c1:w.cell? ⟨b,o + 1,.none⟩=some (.bool p.lives)
 c2:w.cell? ⟨b,o + 2,.none⟩=some (.bool p.asks)
 c3:w.cell? ⟨b,o + 3,.none⟩=some (.int .i64 p.k)
 c4:w.cell? ⟨b,o + 4,.none⟩=some (.int .i64 p.a)
 c5:w.cell? ⟨b,o + 5,.none⟩=some (.int .i64 p.n)
 c6:w.cell? ⟨b,o + 6,.none⟩=some (.bool p.took)
 c7:w.cell? ⟨b,o + 7,.none⟩=some (.bool p.gave)
 c8:w.cell? ⟨b,o + 8,.none⟩=some (.int .i64 p.at')
 c9:w.cell? ⟨b,o + 9,.none⟩=some (.bool p.ab)
 fr:∀ j,w.frozen? ⟨b,j,.none⟩=false
theorem RowP.pt{w:World}{pb:Nat}{ps:List Pt}(h:RowP w pb ps)(i:Nat)(hi:i<ps.length):PtAt w pb (i*10) ps[i]:=
 ⟨h.lt,h.cell i 0 hi (by omega),h.cell i 1 hi (by omega),h.cell i 2 hi (by omega),h.cell i 3 hi (by omega),h.cell i 4 hi (by omega),h.cell i 5 hi (by omega),h.cell i 6 hi (by omega),h.cell i 7 hi (by omega),h.cell i 8 hi (by omega),h.cell i 9 hi (by omega),h.fr⟩
theorem PtAt.below{w w':World}{b o:Nat}{p:Pt}(h:PtAt w b o p)(hb:Below w.heap.size w w'):PtAt w' b o p:=
 ⟨Nat.lt_of_lt_of_le h.lt hb.size,kA hb _ _ _ h.c0,kA hb _ _ _ h.c1,kA hb _ _ _ h.c2,kA hb _ _ _ h.c3,kA hb _ _ _ h.c4,kA hb _ _ _ h.c5,kA hb _ _ _ h.c6,kA hb _ _ _ h.c7,kA hb _ _ _ h.c8,kA hb _ _ _ h.c9,fun j=>(hb.frozen (p:=⟨b,j,.none⟩) h.lt).trans (h.fr j)⟩
theorem ypd(p:Pt)(b o:Nat)(at':Int)(w:World)(h:PtAt w b o p):
  Calls Tryz.prog 141 #[.pointer (some ⟨b,o,.none⟩),at'] w fun e w'=>e= .returned (.bool (ID p at'))/\w'=w:=by
 obtain⟨j,c0,c1,c2,c3,c4,c5,c6,c7,c8,c9,i⟩:=h;go_in;go_wp2;all_goals go_ret
 all_goals exact⟨OF (by first|(simp_all [ID];done)|(rw[Bool.eq_iff_iff];simp_all [ID])),by first|rfl|trivial⟩
theorem ymb(p:Pt)(b o:Nat)(w:World)(h:PtAt w b o p):
  Calls Tryz.prog 142 #[.pointer (some ⟨b,o,.none⟩)] w fun e w'=>e= .returned (.bool (VE p))/\w'=w:=by
 obtain⟨l,c0,c1,c2,c3,c4,c5,c6,c7,c8,c9,i⟩:=h;have j:=fun X=>jM p.n X;go_in;go_wp2_with (go_at_call 103;refine(j _).mono ?_;rintro e q ⟨rfl,m⟩;obtain rfl:=m.symm);all_goals go_ret
 all_goals exact⟨OF (by simp_all [VE]),by first|rfl|trivial⟩
theorem ymf(p:Pt)(e:Ev)(b o:Nat)(w:World)(h:PtAt w b o p):
  Calls Tryz.prog 117 #[.pointer (some ⟨b,o,.none⟩),e.val] w fun r w'=>r= .returned (.bool (WB p e))/\Below w.heap.size w w':=by
 unfold Ev.val Ev.cells;have h2:=h.below (br.alloc lr (.cells #[e.k,e.c,e.ok,e.oa,e.on,e.at',e.n,e.er] 68));have t1:=jA w (.cells #[e.k,e.c,e.ok,e.oa,e.on,e.at',e.n,e.er] 68);have q:=(Below.refl w.heap.size w).alloc lr (.cells #[e.k,e.c,e.ok,e.oa,e.on,e.at',e.n,e.er] 68);go_in;go_upto_region 1 with fail;generalize w.alloc (.cells #[e.k,e.c,e.ok,e.oa,e.on,e.at',e.n,e.er] 68)=W at *;have hd:=hd' (ypd p b o e.at' W h2);have j:=hd' (ymb p b o W h2);obtain⟨m,c0,c1,c2,c3,c4,c5,c6,c7,c8,c9,l⟩:=h2;have z:=iA t1 5;have C:=iA t1 7;go_wp2_with (first|(go_at_call 141;refine hd.out.mono ?_;rintro r y ⟨rfl,i⟩;obtain rfl:=i.symm)|(go_at_call 142;refine j.out.mono ?_;rintro r y ⟨rfl,i⟩;obtain rfl:=i.symm));all_goals go_ret
 all_goals exact⟨OF (by first|(simp_all [WB];done)|(rw[Bool.eq_iff_iff];simp_all [WB])),q⟩
end

section

open Go.RowKit

theorem PtAt.KE{w:World}{b o:Nat}{p q:Pt}(h:PtAt w b o p)(e:p=q):PtAt w b o q:=e ▸ h
def atP (b:Nat):Nat->Prop:=fun k=> k=b
theorem ymy(e:Ev)(pb i o:Nat)(ps:List Pt)(p:Pt)(w:World)(h:RowP w pb ps)(hi:i<ps.length)(I:ps[i]=p)(H:o=i*10):
  Calls Tryz.prog 114 #[.pointer (some ⟨pb,o,.none⟩),e.val] w fun r w'=>r= .returned (.int .i64 (qC p e))/\Only (atP pb) w w'/\RowP w' pb (ps.set i (CC p e)):=by
 have y:∀ W a,(binOp .eql 227 (.pointer (some a)) (.pointer none)).run Tryz.prog W= .ok (.bool false) W:=fun W a=>by kernel_rfl
 unfold Ev.val Ev.cells;have U:=(Below.refl w.heap.size w).alloc lr (.cells #[e.k,e.c,e.ok,e.oa,e.on,e.at',e.n,e.er] 68);have T:RowP (w.alloc (.cells #[e.k,e.c,e.ok,e.oa,e.on,e.at',e.n,e.er] 68)) pb ps:=h.of_block (U.block _ h.lt);have t1:=jA w (.cells #[e.k,e.c,e.ok,e.oa,e.on,e.at',e.n,e.er] 68);have G:Only (atP pb) w (w.alloc (.cells #[e.k,e.c,e.ok,e.oa,e.on,e.at',e.n,e.er] 68)):=(Only.refl _ _).alloc _;have C:=h.lt;go_in;go_upto_region 1 with fail;generalize w.alloc (.cells #[e.k,e.c,e.ok,e.oa,e.on,e.at',e.n,e.er] 68)=W at *;obtain⟨m,c0,c1,c2,c3,c4,c5,c6,c7,c8,c9,z⟩:=H ▸ ((T.pt i hi).KE I);have N:=iA t1 0;have O:=iA t1 2;have R:=iA t1 3;have S:=iA t1 4;have b:∀ (X:World) (q:Pt) (j:Nat) (v:Value) (q':Pt),Only (atP pb) w X->RowP X pb (ps.set i q)->q.cells.set j v=q'.cells->j<10->Only (atP pb) w (X.setCell ⟨pb,o+j,.none⟩ v)/\RowP (X.setCell ⟨pb,o+j,.none⟩ v) pb (ps.set i q'):=fun X q j v q' h1 h2 h4 h5=>by rw[H];refine⟨h1.setCell (p:=⟨pb,i*10+j,.none⟩) (.inl rfl) v,?_⟩;have:=h2.set i j v q' (by rw[List.length_set];exact hi) h5 (by rw[List.getElem_set_self];exact h4);rwa [List.set_set]at this
 have l:RowP W pb (ps.set i p):=by rw[<-I,List.set_getElem_self];exact T
 have E:Only (atP pb) w ((W.setCell ⟨pb,o,.none⟩ (.bool true)).setCell ⟨pb,o+1,.none⟩ (.bool true))/\RowP ((W.setCell ⟨pb,o,.none⟩ (.bool true)).setCell ⟨pb,o+1,.none⟩ (.bool true)) pb (ps.set i {p with was:=true,lives:=true}):=by have M:=b W p 0 (.bool true) {p with was:=true} G l rfl (by omega);rw[Nat.add_zero]at M;exact b _ _ 1 (.bool true) _ M.1 M.2 rfl (by omega)
 have F:Only (atP pb) w ((W.setCell ⟨pb,o+1,.none⟩ (.bool false)).setCell ⟨pb,o+2,.none⟩ (.bool false))/\RowP ((W.setCell ⟨pb,o+1,.none⟩ (.bool false)).setCell ⟨pb,o+2,.none⟩ (.bool false)) pb (ps.set i {p with lives:=false,asks:=false}):=by have M:=b W p 1 (.bool false) {p with lives:=false} G l rfl (by omega);exact b _ _ 2 (.bool false) _ M.1 M.2 rfl (by omega)
 have L:∃ Y,Y=((((((((((W.setCell ⟨pb,o,.none⟩ (.bool true)).setCell ⟨pb,o+1,.none⟩ (.bool true)).setCell ⟨pb,o+2,.none⟩ (.bool true)).setCell ⟨pb,o+3,.none⟩ (.int .i64 e.ok)).setCell ⟨pb,o+4,.none⟩ (.int .i64 e.oa)).setCell ⟨pb,o+5,.none⟩ (.int .i64 e.on)).setCell ⟨pb,o+6,.none⟩ (.bool false)).setCell ⟨pb,o+7,.none⟩ (.bool false)).setCell ⟨pb,o+8,.none⟩ (.int .i64 0)).setCell ⟨pb,o+9,.none⟩ (.bool false))/\Only (atP pb) w Y/\RowP Y pb (ps.set i ⟨true,true,true,e.ok,e.oa,e.on,false,false,0,false⟩):=by refine⟨_,rfl,?_⟩;have M:=b W p 0 (.bool true) {p with was:=true} G l rfl (by omega);rw[Nat.add_zero]at M;have Z:=b _ _ 1 (.bool true) ⟨true,true,p.asks,p.k,p.a,p.n,p.took,p.gave,p.at',p.ab⟩ M.1 M.2 rfl (by omega);have z2:=b _ _ 2 (.bool true) ⟨true,true,true,p.k,p.a,p.n,p.took,p.gave,p.at',p.ab⟩ Z.1 Z.2 rfl (by omega);have z3:=b _ _ 3 (.int .i64 e.ok) ⟨true,true,true,e.ok,p.a,p.n,p.took,p.gave,p.at',p.ab⟩ z2.1 z2.2 rfl (by omega);have z4:=b _ _ 4 (.int .i64 e.oa) ⟨true,true,true,e.ok,e.oa,p.n,p.took,p.gave,p.at',p.ab⟩ z3.1 z3.2 rfl (by omega);have z5:=b _ _ 5 (.int .i64 e.on) ⟨true,true,true,e.ok,e.oa,e.on,p.took,p.gave,p.at',p.ab⟩ z4.1 z4.2 rfl (by omega);have z6:=b _ _ 6 (.bool false) ⟨true,true,true,e.ok,e.oa,e.on,false,p.gave,p.at',p.ab⟩ z5.1 z5.2 rfl (by omega);have z7:=b _ _ 7 (.bool false) ⟨true,true,true,e.ok,e.oa,e.on,false,false,p.at',p.ab⟩ z6.1 z6.2 rfl (by omega);have z8:=b _ _ 8 (.int .i64 0) ⟨true,true,true,e.ok,e.oa,e.on,false,false,0,p.ab⟩ z7.1 z7.2 rfl (by omega);exact b _ _ 9 (.bool false) _ z8.1 z8.2 rfl (by omega)
 replace E:=hd' E;replace F:=hd' F;replace L:=hd' L;clear b T U;replace hi:=hd' hi;replace I:=hd' I;replace H:=hd' H;have D:w.heap.size≠pb:=by omega
 go_wp2;all_goals go_ret
 all_goals first
  |(refine⟨?_,(by with_reducible exact G),?_⟩;exact FE (by clear G l E F L t1 m z c0 c1 c2 c3 c4 c5 c6 c7 c8 c9 N O R S y I hi H D C h;simp_all [qC]);rw[show CC p e=p by clear G l E F L t1 m z c0 c1 c2 c3 c4 c5 c6 c7 c8 c9 N O R S y I hi H D C h;simp_all [CC,qC]];exact l)
  |(refine⟨?_,(by with_reducible exact E.out.1),?_⟩;exact FE (by clear G l E F L t1 m z c0 c1 c2 c3 c4 c5 c6 c7 c8 c9 N O R S y I hi H D C h;simp_all [qC]);rw[show CC p e= {p with was:=true,lives:=true} by clear G l E F L t1 m z c0 c1 c2 c3 c4 c5 c6 c7 c8 c9 N O R S y I hi H D C h;simp_all [CC,qC]];exact E.out.2)
  |(refine⟨?_,(by with_reducible exact F.out.1),?_⟩;exact FE (by clear G l E F L t1 m z c0 c1 c2 c3 c4 c5 c6 c7 c8 c9 N O R S y I hi H D C h;simp_all [qC]);rw[show CC p e= {p with lives:=false,asks:=false} by clear G l E F L t1 m z c0 c1 c2 c3 c4 c5 c6 c7 c8 c9 N O R S y I hi H D C h;simp_all [CC,qC]];exact F.out.2)
  |(obtain⟨Y,V,h1,h2⟩:=L.out;rw[<-V];have hc:qC p e=0:=(by clear V h1 h2;clear G l E F L t1 m z c0 c1 c2 c3 c4 c5 c6 c7 c8 c9 N O R S y I hi H D C h;simp_all [qC];done);refine⟨FE hc.symm,h1,?_⟩;rw[show CC p e=⟨true,true,true,e.ok,e.oa,e.on,false,false,0,false⟩ by unfold CC;rw[hc];clear V h1 h2;clear G l E F L t1 m z c0 c1 c2 c3 c4 c5 c6 c7 c8 c9 N O R S y I hi H D C h;simp_all];exact h2)
  |trace_state
def pvV (pb n:Nat):Value:=if n=0 then .slice none 0 0 else .slice (some ⟨pb,0,.none⟩) n n
structure JgA (B:Nat) (w:World) (jb s pb:Nat) (sl:Value) (J:Jd):Prop where
 head:w.heap[jb]?=some (.cells #[some s,pvV pb J.ps.length,J.m,J.at',J.why] 151 (0,0))
 model:PM B w s sl J.W J.l
 row:J.ps≠ []->RowP w pb J.ps
 lies:B<=jb/\B<=pb
 plt:pb < w.heap.size
 apart:jb≠s/\pb≠s/\pb≠jb/\sl.ownBlock≠some jb/\sl.ownBlock≠some pb
def TG (jb s pb:Nat) (sl:Value):Nat->Prop:=fun k=> k=jb\/k=pb\/foot s sl k
section

variable {B:Nat} {w w':World} {jb s pb:Nat} {sl sl':Value} {J:Jd}

theorem JgA.lt(h:JgA B w jb s pb sl J):jb<w.heap.size:=(jE h.head)
theorem JgA.below(h:JgA B w jb s pb sl J)(hb:Below w.heap.size w w'):JgA B w' jb s pb sl J:=
 ⟨(hb.block _ h.lt).trans h.head,h.model.below hb,fun e=>(h.row e).of_block (hb.block _ (h.row e).lt),h.lies,Nat.lt_of_lt_of_le h.plt hb.size,h.apart⟩
theorem JgA.h0(h:JgA B w jb s pb sl J):w.cell? ⟨jb,0,.none⟩=some (.pointer (some ⟨s,0,.none⟩)):=iA h.head 0
theorem JgA.h1(h:JgA B w jb s pb sl J):w.cell? ⟨jb,1,.none⟩=some (pvV pb J.ps.length):=iA h.head 1
theorem JgA.h2(h:JgA B w jb s pb sl J):w.cell? ⟨jb,2,.none⟩=some (.int .i64 J.m):=iA h.head 2
theorem JgA.h3(h:JgA B w jb s pb sl J):w.cell? ⟨jb,3,.none⟩=some (.int .i64 J.at'):=iA h.head 3
theorem JgA.h4(h:JgA B w jb s pb sl J):w.cell? ⟨jb,4,.none⟩=some (.int .i64 J.why):=iA h.head 4
theorem JgA.fr(h:JgA B w jb s pb sl J)(i:Nat):w.frozen? ⟨jb,i,.none⟩=false:=DA h.head i
theorem JgA.setM(h:JgA B w jb s pb sl J){l':List Bk}(q:PM B w' s sl' J.W l')(b:Only (foot s sl) w w')(i:∀ k,foot s sl' k->foot s sl k\/w.heap.size<=k):JgA B w' jb s pb sl' {J with l:=l'}:=by
 obtain⟨a1,f,n,o,p⟩:=h.apart;have j:¬ foot s sl jb:=by rintro(e|e);exact a1 e;exact o e
 have m:¬ foot s sl pb:=by rintro(e|e);exact f e;exact p e
 refine⟨(b.block _ h.lt j).trans h.head,q,fun e=>(h.row e).of_block (b.block _ (h.row e).lt m),h.lies,Nat.lt_of_lt_of_le h.plt b.size,a1,f,n,fun e=>?_,fun e=>?_⟩
 ·rcases i jb (.inr e) with h1|h1
  ·exact j h1
  have:=h.lt;omega
 rcases i pb (.inr e) with h1|h1
 ·exact m h1
 have:=h.plt;omega
theorem JgA.setP(h:JgA B w jb s pb sl J){qs:List Pt}(n:qs.length=J.ps.length)(o:RowP w' pb qs)(f:Only (atP pb) w w'):JgA B w' jb s pb sl {J with ps:=qs}:=by
 obtain⟨a1,j,l,p,m⟩:=h.apart;refine⟨?_,?_,fun _=>o,h.lies,Nat.lt_of_lt_of_le h.plt f.size,h.apart⟩
 ·show w'.heap[jb]?=_;rw[f.block _ h.lt (fun e=>l e.symm),h.head,n]
 have b:=h.model;refine⟨b.lies,(f.block _ b.lt (fun e=>j e.symm)).trans b.head,PB b.owns fun k i=>f.block _ (b.owns.lt k i).2 (fun e=>m (by rw[i,e])),b.apart,b.ok,b.small⟩
theorem JgA.setJ(h:JgA B w jb s pb sl J)(m at' why:Int)(n:w'.heap[jb]?=some (.cells #[some s,pvV pb J.ps.length,m,at',why] 151 (0,0)))(f:Only (atP jb) w w'):JgA B w' jb s pb sl {J with m:=m,at':=at',why:=why}:=by
 obtain⟨a1,o,j,l,p⟩:=h.apart;refine⟨n,?_,fun e=>(h.row e).of_block (f.block _ (h.row e).lt (fun e=>j e)),h.lies,Nat.lt_of_lt_of_le h.plt f.size,h.apart⟩;have b:=h.model;exact⟨b.lies,(f.block _ b.lt (fun e=>a1 e.symm)).trans b.head,PB b.owns fun k i=>f.block _ (b.owns.lt k i).2 (fun e=>l (by rw[i,e])),b.apart,b.ok,b.small⟩
end

end

end Go.Proofs.YtmmbicppdjgbmaaGreat
