/- Lemmas for the claim. -/
import Derived.Test.YtkilokkopbajkaaGreatBw34

import Derived.Test.YtkilokkopbajkaaGreatBw37

set_option linter.all false
set_option maxHeartbeats 2000000
namespace Go.Proofs.YtkilokkopbajkaaGreat

section

open Go.RowKit

theorem Only.mono'{F G:Nat->Prop}{a b:World}(h:Only F a b)(f:∀ k,F k->G k):Only G a b:=⟨h.os,h.tape,h.output,h.size,fun k i j=>h.block k i (fun e=>j (f k e))⟩
end

section

open Go.RowKit Go.ChangeShapes Go.WideShapes Go.ChangeAt

section

variable {H:Type} {enc:TypeId × Value->H} {P:Program} {w:World}

theorem z7d{t:TypeId}{k:FloatKind}{cs:List Value}(j:P.underlying t=some (.float k))(h:Rd enc P w t cs):∃ b,cs= [.float k b]/\(Lit.float k b).wf=true:=by
 obtain⟨f,x,i⟩:=h;cases f with
 |zero=>simp[DataW.trod]at i;|succ n=>unfold DataW.trod at i;rw[j]at i;split at i<;>simp_all
end

end

section

theorem dY(l:List Ch):∀ (j:Nat) (h:j<l.length) (k:Nat),k<6->(l.flatMap Ch.cells)[j*6+k]?=(l[j]).cells[k]?:=by
 induction l with
 |nil=>intro j h;simp at h
 |cons a l i=>
  intro j h k f
  have b:a.cells.length=6:=rfl
  rw[List.flatMap_cons]
  cases j with
  |zero=>rw[Nat.zero_mul,Nat.zero_add,List.getElem?_append_left (by omega)];rfl
  |succ j=>
   rw[List.getElem?_append_right (by omega),b,show (j+1)*6+k-6=j*6+k by omega]
   exact i j (by simpa using h) k f
end

section

open Go.RowKit

attribute [local go_sem ↓] Go.wp_at_zero Go.wp_at_succ

theorem z8i(s:Sh)(W:World)(l:¬ mayB s.p s.c s.m=true):
  Calls Tryz.prog 41 #[.agg #[s.p,s.c,s.m]] W fun e w'=>Below W.heap.size W w'/\e= .returned (.tuple #[.pointer none,.int .i64 1]):=by
 have b:=fun Y=>tC s.p s.c s.m Y;have i:mayB s.p s.c s.m=false:=by simpa using l
 rw[i]at b;obtain⟨sp,o,q⟩:=s;dsimp only at *;replace b:=hd' b;clear l i;go_in;go_wp2_with (first|(go_at_call 86;refine(b _).mono ?_;rintro r t ⟨rfl,j⟩;obtain rfl:=j.symm));go_returns;exact⟨by go_grown,rfl⟩
attribute [local go_sem] dP

theorem NU(c:Ch)(W:World):Calls Tryz.prog 12 #[.agg c.cells.toArray] W fun e w'=>e= .returned (.agg c.cells.toArray)/\Below W.heap.size W w':=by
 obtain⟨l,j,m,b,cn,i⟩:=c;show Calls Tryz.prog 12 #[.agg #[l,j,m,b,cn,.float .f64 i]] W fun e w'=>e= .returned (.agg #[l,j,m,b,cn,.float .f64 i])/\Below W.heap.size W w';go_in;go_wp2_with fail;have o:(W.alloc (.cells #[l,j,m,b,cn,.float .f64 i] 35)).heap.size=W.heap.size+1:=by simp
 have t:aA ((W.alloc (.cells #[l,j,m,b,cn,.float .f64 i] 35)).alloc (.cells #[l,j,m,b,cn,.float .f64 i] 38)) (W.heap.size+1) #[l,j,m,b,cn,.float .f64 i] 38:=by have h:=heap_alloc_new (W.alloc (.cells #[l,j,m,b,cn,.float .f64 i] 35)) (.cells #[l,j,m,b,cn,.float .f64 i] 38);rw[o]at h;exact h
 have hb:Below W.heap.size W ((W.alloc (.cells #[l,j,m,b,cn,.float .f64 i] 35)).alloc (.cells #[l,j,m,b,cn,.float .f64 i] 38)):=by go_grown
 generalize (W.alloc (.cells #[l,j,m,b,cn,.float .f64 i] 35)).alloc (.cells #[l,j,m,b,cn,.float .f64 i] 38)=X at *;generalize W.heap.size+1=H at *;obtain⟨r0,r1,p,q,r⟩:=ci5 l j m b cn t.cell;have y:=ce (.float .f64 i) (t.cell 5);exact bodyPost_ret (v:= .agg #[l,j,m,b,cn,.float .f64 i]) (by simp[results,Tryz.results12,go_sem,r0,r1,p,q,r,y]) rfl ⟨rfl,hb⟩
end

section

open Go.RowKit

attribute [local go_sem ↓] Go.wp_at_zero Go.wp_at_succ

theorem qS(ao:Option Addr)(n cap:Nat)(m:Nat)(i:(n:Int)<=9223372036854775807)(w:World):Calls Tryz.prog 9 #[.slice ao n cap,.int .i64 (m:Int)] w fun e w'=>e= .returned (.bool (decide (n<=m)))/\w'=w:=by
 by_cases h:n<=m
 ·rw[jT h];have b:(n:Int)<=(m:Int):=by omega
  go_in;go_wp2_with fail;go_returns;exact⟨rfl,rfl⟩
 rw[jF h];have b:¬ (n:Int)<=(m:Int):=by omega
 go_in;go_wp2_with fail;go_returns;exact⟨rfl,rfl⟩
theorem chAt{W:World}{xs:List Ch}{ao:Option Addr}{n cap:Nat}(I:n=xs.length)(C:RdS W 6 (.slice ao n cap) n (xs.flatMap Ch.cells)){i:Nat}(hi:i<xs.length):∃ f b,ao=some ⟨f,b,.none⟩/\∀ H X,W.heap.size<=H->Below H W X->(∀ k,k<6->X.cell? ⟨f,b+i*6+k,.none⟩=xs[i].cells[k]?)/\f<X.heap.size:=by
 obtain⟨q,m,e,o,t,G,l⟩:=C;injection e with r D E;subst r;obtain⟨f,b,rfl,y,j⟩:=l (by omega);refine⟨f,b,rfl,fun H X F hb=>⟨fun k z=>?_,by have:=hb.size;omega⟩⟩;have h1:X.cell? ⟨f,b+i*6+k,.none⟩=W.cell? ⟨f,b+i*6+k,.none⟩:=hb.cell (p:=⟨f,_,.none⟩) (show f<H by omega);rw[h1,Nat.add_assoc,j _ (by omega)];exact dY xs i hi k z
end

section

open Go.RowKit

def atB (l:List Bk) (at':Int):Option Bk:=if iB at' l then l[posB at' l]? else none
def blkV (o:Option Bk):Value:=match o with | some b=> .tuple #[.agg #[b.a,b.n],.bool true] | none=> .tuple #[.agg #[.int .i64 0,.int .i64 0],.bool false]
end

section

open Go.RowKit

attribute [local go_sem ↓] Go.wp_at_zero Go.wp_at_succ

attribute [local go_sem high] gP mP YO

theorem yp8{W lo:Int}{l:List Bk}(h:okK W lo l)(i:Nat)(hi:i<l.length):atB l l[i].a=some l[i]:=by
 have f:=EM l[i].a l i (by omega) (fun k m b=>by have:=h.lt k i m hi;have:=(h.mem _ (List.getElem_mem b)).2.1;omega) (fun _=>Int.le_refl _);have j:iB l[i].a l=true:=(LJ _ _).2 ⟨by omega,by simp only[f]⟩;unfold atB;rw[jP j,f,List.getElem?_eq_getElem hi]
theorem yo9{W lo a:Int}{l:List Bk}(h:okK W lo l)(j:∀ i (hi:i<l.length),l[i].a≠a):atB l a=none:=by
 unfold atB;rw[jN];intro f;obtain⟨b,hb,e⟩:=(XJ h).1 f;obtain⟨i,hi,rfl⟩:=List.getElem_of_mem hb;exact j i hi e
theorem yqe{B s:Nat}{w:World}{sl:Value}{W:Int}{l:List Bk}(h:RM B w s sl W l)(at':Int):
  Calls Tryz.prog 27 #[some s,at'] w fun e w'=>e= .returned (blkV (atB l at'))/\Below w.heap.size w w':=by
 have c0:=h.cell0;have R:=h.lt;obtain⟨ao,cap,rfl,C,U,r⟩:=h.rd.nth;have hs:=h.small;have D:=h.len;obtain⟨n,S,F⟩:=hidv l.length;rw[<-F]at c0 C D;clear F;go_in;go_wp2;go_loopw [6] (fun N wr=>∃ i:Nat,i<=n/\N= .int .i64 i/\(∀ j (z:j<l.length),j<i->l[j].a≠at')/\wr=w.alloc (.cells #[.int .i64 0,.int .i64 0] 64)) (fun N _=>n-(intOf N).toNat);case atStart=>exact⟨0,Nat.zero_le _,rfl,(fun j z h=>absurd h (Nat.not_lt_zero _)),by first|rfl|trivial⟩
 case round=>
  obtain⟨i,hi,rfl,p,rfl⟩:=hrel;have L:Below w.heap.size w (w.alloc (.cells #[.int .i64 0,.int .i64 0] 64)):=br.alloc lr _;by_cases E:i<n
  ·have y:i<l.length:=S.out ▸ E;obtain⟨b,b1,rfl,hb,hc⟩:=r (fun e=>by rw[e]at y;simp at y);obtain⟨x0,x1⟩:=hc i y;have o:=yp8 h.ok i y;have Y:(i:Int)<(n:Int):=by omega
   have X:(0:Int)<=(i:Int):=by omega
   by_cases G:l[i].a=at'
   ·have m:blkV (atB l at')= .tuple #[.agg #[.int .i64 l[i].a,.int .i64 l[i].n],.bool true]:=by rw[<-G,o];rfl
    replace m:=hd' m;have b0:b≠w.heap.size:=by omega
    have T:s≠w.heap.size:=by omega
    clear o p hc r;generalize l[i].a=I at *;generalize l[i].n=O at *;subst G;go_wp2;exact bodyPost_ret (v:= .tuple #[.agg #[I,O],.bool true]) (by simp[results,Tryz.results27,go_sem]) rfl ⟨by rw[m],br.alloc lr _⟩
   have q:∀ j (z:j<l.length),j<i+1->l[j].a≠at':=fun j z h=>by
    rcases Nat.lt_or_ge j i with h1|h1
    ·exact p j z h1
    have:j=i:=by omega
    subst this;exact G
   replace q:=hd' q;clear o p hc r;generalize l[i].a=I at *;generalize l[i].n=O at *;have V:(I==at')=false:=by rw[beq_eq_false_iff_ne];exact G
   go_wp2;exact⟨⟨i+1,by omega,by go_num,q.out,by first|rfl|trivial⟩,by simp[intOf];omega⟩
  have M:i=n:=by omega
  subst M;have Z:¬ ((i:Int)<(i:Int)):=by omega
  have m:blkV (atB l at')= .tuple #[.agg #[.int .i64 0,.int .i64 0],.bool false]:=by rw[yo9 h.ok (fun j z=>p j z (by have:=S.out;omega))];rfl
  replace m:=hd' m;clear E p;go_wp2;exact bodyPost_ret (v:= .tuple #[.agg #[.int .i64 0,.int .i64 0],.bool false]) (by simp[results,Tryz.results27,go_sem]) rfl ⟨by rw[m],L⟩
theorem ymu{W lo:Int}{l:List Bk}(h:okK W lo l)(i:Nat)(hi:i<l.length):iB l[i].a l=true/\posB l[i].a l=i:=by
 have f:=EM l[i].a l i (by omega) (fun k j b=>by have:=h.lt k i j hi;have:=(h.mem _ (List.getElem_mem b)).2.1;omega) (fun _=>Int.le_refl _);exact⟨(LJ _ _).2 ⟨by omega,by simp only[f]⟩,f⟩
theorem yma{W lo a:Int}{l:List Bk}(h:okK W lo l)(j:∀ i (hi:i<l.length),l[i].a≠a):iB a l=false:=by
 rw[Bool.eq_false_iff];intro f;obtain⟨b,hb,e⟩:=(XJ h).1 f;obtain⟨i,hi,rfl⟩:=List.getElem_of_mem hb;exact j i hi e
theorem yn7{B s:Nat}{w:World}{sl:Value}{W:Int}{l:List Bk}(h:RM B w s sl W l)(at':Int):
  Calls Tryz.prog 29 #[some s,at'] w fun e w'=>e= .returned (.bool (iB at' l))/\∃ sl',RM B w' s sl' W (DB l at')/\Only (foot s sl) w w'/\∀ k,foot s sl' k->foot s sl k\/w.heap.size<=k:=by
 have c0:=h.cell0;have Z:=h.lt;have bm:=h.free;have b1:=AT (at':=at') h.ok;obtain⟨ao,cap,rfl,U,bj,E⟩:=h.rd.nth;have hs:=h.small;have X:=h.len;obtain⟨n,T,b0⟩:=hidv l.length;have O:=h.rd;rw[<-b0]at c0 U X O h ⊢;clear b0;obtain⟨i0,V,b2,b3,b4⟩:=info_parts jR;go_in;go_wp2;go_loopw [5] (fun vi wr=>∃ i:Nat,i<=n/\vi= .int .i64 i/\(∀ j (S:j<l.length),j<i->l[j].a≠at')/\wr=w) (fun vi _=>n-(intOf vi).toNat);case atStart=>exact⟨0,Nat.zero_le _,rfl,(fun j S h=>absurd h (Nat.not_lt_zero _)),by first|rfl|trivial⟩
 case round=>
  obtain⟨i,hi,rfl,C,b9⟩:=hrel;obtain rfl:=b9.symm;by_cases Y:i<n
  ·have I:i<l.length:=T.out ▸ Y;obtain⟨b,bv,rfl,hb,hc⟩:=E (fun e=>by rw[e]at I;simp at I);obtain⟨x0,x1⟩:=hc i I;have bq:(i:Int)<(n:Int):=by omega
   have bg:(0:Int)<=(i:Int):=by omega
   have bh:(i:Int)+1<=(n:Int):=by omega
   have bi:(0:Int)<=(i:Int)+1:=by omega
   by_cases R:l[i].a=at'
   ·obtain⟨m,y⟩:=ymu h.ok i I;rw[R]at m y;have o:DB l at'=l.take i++l.drop (i+1):=by unfold DB NI;rw[jP m,y]
    have N:(DB l at').length=i+(n-(i+1)):=by rw[o,List.length_append,List.length_take,List.length_drop,<- T];omega
    have M:SA (DB l at')=SA (l.take i)++SA (l.drop (i+1)):=by rw[o,kK]
    replace o:=hd' o;replace N:=hd' N;replace M:=hd' M;replace y:=hd' y;have b7:=XQ O T i (by omega);have b8:=YQ O T (i+1) (by omega);have bb:IntKind.i64.wrap ((i:Int)+1)=(i:Int)+1:=by rw[IntKind.wrap_i64];omega
    have bu:((i:Int)+1).toNat=i+1:=by omega
    have bp:(i:Int)<=(cap:Int):=by omega
    clear C hc E;replace R:=R;generalize l[i].a=ba at *;generalize l[i].n=bn at *;subst R;replace m:=hd' m;go_wp2
    go_region_law
     (first|(refine DG (by rfl) (.const (.slice none 0 0)) (.tmp 31) 71 (by rfl) w.heap.size 64 i0 _ 2 16 Tryz.underlying71 V b2 b3 b4 rfl (by omega) _ 0 [] (by rfl) (pK _ _ _ _) _ i (SA (l.take i)) (by rfl) b7.drew (iK _) (by simp only[maxLen];omega) (by omega) lr ?_;intro v1 w1 p F bc;have r:=iE ((Below.refl w.heap.size w).drew) (pK 64 2 w.heap.size w.drew) lr F;have L:=r.size;simp only[Nat.zero_add,List.nil_append]at p;have q1:=iA r _ _ _ c0)|(refine DG (by rfl) (.tmp 32) (.tmp 39) 71 (by rfl) w.heap.size 64 i0 _ 2 16 Tryz.underlying71 V b2 b3 b4 rfl (by omega) _ i (SA (l.take i)) (by rfl) p _ (n-(i+1)) (SA (l.drop (i+1))) (by rfl) (b8.below r) (iK _) (by simp only[maxLen];omega) (by omega) L ?_;intro v2 w2 q G bf;have z:=iE r p L G;obtain⟨so,sc,rfl,_,_,_⟩:=RdS.GC q;have q2:=iA z _ _ _ c0;have q3:w2.frozen? ⟨s,0,.none⟩=false:=GA ((z.block s Z).trans h.head) 0))
    all_goals rw[<-M]at q;obtain⟨m1,m2,m3⟩:=Mdl.reset h z q N b1;go_wp2;go_ret;exact⟨by rw[m];rfl,_,m1,m2,m3⟩
   have D:∀ j (S:j<l.length),j<i+1->l[j].a≠at':=fun j S h=>by
    rcases Nat.lt_or_ge j i with h1|h1
    ·exact C j S h1
    have:j=i:=by omega
    subst this;exact R
   replace D:=hd' D;clear C hc E;generalize l[i].a=ba at *;generalize l[i].n=bn at *;have bk:(ba==at')=false:=by rw[beq_eq_false_iff_ne];exact R
   go_wp2;exact⟨⟨i+1,by omega,by go_num,D.out,by first|rfl|trivial⟩,by simp[intOf];omega⟩
  have b5:i=n:=by omega
  subst b5;have bs:¬ ((i:Int)<(i:Int)):=by omega
  have m:iB at' l=false:=yma h.ok (fun j S=>C j S (by have:=T.out;omega));have o:DB l at'=l:=by unfold DB;rw[jN (by rw[m];simp)]
  have b6:RM B w s (.slice ao i cap) W (DB l at'):=by rw[o];exact T.out ▸ h
  replace m:=hd' m;clear Y C o;go_wp2;go_ret;exact⟨by rw[m];rfl,_,b6,Only.refl _ _,fun k hk=>.inl hk⟩
end

section

open Go.RowKit

def rpC (p:Pt):List Value:= [.bool p.was,.bool p.lives,.bool p.asks,.bool p.took,.bool p.gave,.bool p.ab,.int .i64 p.k,.int .i64 p.a,.int .i64 p.n,.int .i64 p.at']
theorem JN(p:Pt):(rpC p).length=10:=rfl
def rpsC (ps:List Pt):List Value:=ps.flatMap rpC
theorem VR(ps:List Pt):(rpsC ps).length=ps.length*10:=UL rpC 10 JN ps
theorem sR(a b:List Pt):rpsC (a++b)=rpsC a++rpsC b:=by simp[rpsC]
theorem XR(ps:List Pt)(i j:Nat)(hi:i<ps.length)(b:j<10):(rpsC ps)[i*10+j]?=(rpC ps[i])[j]?:=BM rpC 10 JN ps i j hi b
theorem ypd(ps:List Pt)(i j:Nat)(v:Value)(q:Pt)(hi:i<ps.length)(b:j<10)(l:(rpC ps[i]).set j v=rpC q):(rpsC ps).set (i*10+j) v=rpsC (ps.set i q):=by
 have e:ps=ps.take i++ps[i]::ps.drop (i+1):=by rw[List.getElem_cons_drop,List.take_append_drop]
 have f:(ps.take i).length=i:=by rw[List.length_take];omega
 have m:ps.set i q=ps.take i++q::ps.drop (i+1):=by rw[List.set_eq_take_append_cons_drop,jP hi]
 have h1:rpsC ps=rpsC (ps.take i)++(rpC ps[i]++rpsC (ps.drop (i+1))):=by
  conv=>lhs;rw[e]
  rw[sR];rfl
 have h2:rpsC (ps.set i q)=rpsC (ps.take i)++(rpC q++rpsC (ps.drop (i+1))):=by rw[m,sR];rfl
 have h3:(rpsC (ps.take i)).length=i*10:=by rw[VR,f]
 rw[h1,h2,List.set_append_right _ _ (by omega),h3,Nat.add_sub_cancel_left,List.set_append_left _ _ (by rw[JN];exact b),l]
def RrP (w:World) (pb:Nat) (ps:List Pt):Prop:=w.heap[pb]?=some (.cells (rpsC ps).toArray 135 (0,0))
section

variable {w w':World} {pb:Nat} {ps:List Pt}

theorem RrP.lt(h:RrP w pb ps):pb<w.heap.size:=(jE h)
theorem RrP.of_block(h:RrP w pb ps)(hb:w'.heap[pb]?=w.heap[pb]?):RrP w' pb ps:=hb.trans h
theorem RrP.cell(h:RrP w pb ps)(i j:Nat)(hi:i<ps.length)(b:j<10):w.cell? ⟨pb,i*10+j,.none⟩=(rpC ps[i])[j]?:=by
 rw[kA h,List.getElem?_toArray];exact XR ps i j hi b
theorem RrP.fr(h:RrP w pb ps)(j:Nat):w.frozen? ⟨pb,j,.none⟩=false:=GA h j
theorem RrP.set(h:RrP w pb ps)(i j:Nat)(v:Value)(q:Pt)(hi:i<ps.length)(b:j<10)(f:(rpC ps[i]).set j v=rpC q):RrP (w.setCell ⟨pb,i*10+j,.none⟩ v) pb (ps.set i q):=by
 unfold RrP at *;rw[heap_setCell_same w pb _ _ _ _ h,List.setIfInBounds_toArray,ypd ps i j v q hi b f]
end

structure RpAt (w:World) (b o:Nat) (p:Pt):Prop where
 lt:b < w.heap.size
 c0:w.cell? ⟨b,o,.none⟩=some (.bool p.was)
 c1:w.cell? ⟨b,o + 1,.none⟩=some (.bool p.lives)
 c2:w.cell? ⟨b,o + 2,.none⟩=some (.bool p.asks)
 c3:w.cell? ⟨b,o + 3,.none⟩=some (.bool p.took)
 c4:w.cell? ⟨b,o + 4,.none⟩=some (.bool p.gave)
 c5:w.cell? ⟨b,o + 5,.none⟩=some (.bool p.ab)
 c6:w.cell? ⟨b,o + 6,.none⟩=some (.int .i64 p.k)
 c7:w.cell? ⟨b,o + 7,.none⟩=some (.int .i64 p.a)
 c8:w.cell? ⟨b,o + 8,.none⟩=some (.int .i64 p.n)
 c9:w.cell? ⟨b,o + 9,.none⟩=some (.int .i64 p.at')
 fr:∀ j,w.frozen? ⟨b,j,.none⟩=false
theorem RrP.pt{w:World}{pb:Nat}{ps:List Pt}(h:RrP w pb ps)(i:Nat)(hi:i<ps.length){p:Pt}(b:ps[i]=p):RpAt w pb (i*10) p:=by
 subst b;exact⟨h.lt,h.cell i 0 hi (by omega),h.cell i 1 hi (by omega),h.cell i 2 hi (by omega),h.cell i 3 hi (by omega),h.cell i 4 hi (by omega),h.cell i 5 hi (by omega),h.cell i 6 hi (by omega),h.cell i 7 hi (by omega),h.cell i 8 hi (by omega),h.cell i 9 hi (by omega),h.fr⟩
theorem RpAt.below{w w':World}{b o:Nat}{p:Pt}(h:RpAt w b o p)(hb:Below w.heap.size w w'):RpAt w' b o p:=
 ⟨Nat.lt_of_lt_of_le h.lt hb.size,iA hb _ _ _ h.c0,iA hb _ _ _ h.c1,iA hb _ _ _ h.c2,iA hb _ _ _ h.c3,iA hb _ _ _ h.c4,iA hb _ _ _ h.c5,iA hb _ _ _ h.c6,iA hb _ _ _ h.c7,iA hb _ _ _ h.c8,iA hb _ _ _ h.c9,fun j=>(hb.frozen (p:=⟨b,j,.none⟩) h.lt).trans (h.fr j)⟩
def atR (b:Nat):Nat->Prop:=fun k=> k=b
theorem RrP.put{w X:World}{pb i:Nat}{ps:List Pt}{q q':Pt}(hi:i<ps.length)(j:Nat)(v:Value)(h1:Only (atR pb) w X)(h2:RrP X pb (ps.set i q))(h4:(rpC q).set j v=rpC q')(b:j<10):Only (atR pb) w (X.setCell ⟨pb,i*10+j,.none⟩ v)/\RrP (X.setCell ⟨pb,i*10+j,.none⟩ v) pb (ps.set i q'):=by
 refine⟨h1.setCell (p:=⟨pb,i*10+j,.none⟩) (.inl rfl) v,?_⟩;have:=h2.set i j v q' (by rw[List.length_set];exact hi) b (by rw[List.getElem_set_self];exact h4);rwa [List.set_set]at this
def rvV (pb n:Nat):Value:= .slice (some ⟨pb,0,.none⟩) n n
structure JrA (B:Nat) (w:World) (jb s pb:Nat) (sl:Value) (J:Jd):Prop where
 head:w.heap[jb]?=some (.cells #[some s,rvV pb J.ps.length,J.m,J.at',J.why] 84 (0,0))
 model:RM B w s sl J.W J.l
 row:RrP w pb J.ps
 lies:B<=jb/\B<=pb
 apart:jb≠s/\pb≠s/\pb≠jb/\sl.ownBlock≠some jb/\sl.ownBlock≠some pb
def cF (jb s pb:Nat) (sl:Value):Nat->Prop:=fun k=> k=jb\/k=pb\/foot s sl k
section

variable {B:Nat} {w w':World} {jb s pb:Nat} {sl sl':Value} {J:Jd}

theorem JrA.lt(h:JrA B w jb s pb sl J):jb<w.heap.size:=(jE h.head)
theorem JrA.below(h:JrA B w jb s pb sl J)(hb:Below w.heap.size w w'):JrA B w' jb s pb sl J:=
 ⟨(hb.block _ h.lt).trans h.head,h.model.below hb,h.row.of_block (hb.block _ h.row.lt),h.lies,h.apart⟩
theorem JrA.h0(h:JrA B w jb s pb sl J):w.cell? ⟨jb,0,.none⟩=some (.pointer (some ⟨s,0,.none⟩)):=kA h.head 0
theorem JrA.h1(h:JrA B w jb s pb sl J):w.cell? ⟨jb,1,.none⟩=some (rvV pb J.ps.length):=kA h.head 1
theorem JrA.h2(h:JrA B w jb s pb sl J):w.cell? ⟨jb,2,.none⟩=some (.int .i64 J.m):=kA h.head 2
theorem JrA.h3(h:JrA B w jb s pb sl J):w.cell? ⟨jb,3,.none⟩=some (.int .i64 J.at'):=kA h.head 3
theorem JrA.h4(h:JrA B w jb s pb sl J):w.cell? ⟨jb,4,.none⟩=some (.int .i64 J.why):=kA h.head 4
theorem JrA.fr(h:JrA B w jb s pb sl J)(i:Nat):w.frozen? ⟨jb,i,.none⟩=false:=GA h.head i
theorem JrA.jI(h:JrA B w jb s pb sl J):∀ k,cF jb s pb sl k->B<=k/\k<w.heap.size:=by
 rintro k (rfl|rfl|rfl|e)
 ·exact⟨h.lies.1,h.lt⟩
 ·exact⟨h.lies.2,h.row.lt⟩
 ·exact⟨h.model.lies,h.model.lt⟩
 exact h.model.owns.lt k e
theorem JrA.blocks(h:JrA B w jb s pb sl J)(hb:∀ k,cF jb s pb sl k->w'.heap[k]?=w.heap[k]?):JrA B w' jb s pb sl J:=
 ⟨(hb _ (.inl rfl)).trans h.head,h.model.blocks fun k b=>hb k (.inr (.inr b)),h.row.of_block (hb _ (.inr (.inl rfl))),h.lies,h.apart⟩
theorem JrA.setM(h:JrA B w jb s pb sl J){l':List Bk}(r:RM B w' s sl' J.W l')(j:Only (foot s sl) w w')(f:∀ k,foot s sl' k->foot s sl k\/w.heap.size<=k):JrA B w' jb s pb sl' {J with l:=l'}:=by
 obtain⟨a1,b,o,p,q⟩:=h.apart;have i:¬ foot s sl jb:=by rintro(e|e);exact a1 e;exact p e
 have m:¬ foot s sl pb:=by rintro(e|e);exact b e;exact q e
 refine⟨(j.block _ h.lt i).trans h.head,r,h.row.of_block (j.block _ h.row.lt m),h.lies,a1,b,o,fun e=>?_,fun e=>?_⟩
 ·rcases f jb (.inr e) with h1|h1
  ·exact i h1
  have:=h.lt;omega
 rcases f pb (.inr e) with h1|h1
 ·exact m h1
 have:=h.row.lt;omega
theorem JrA.setP(h:JrA B w jb s pb sl J){qs:List Pt}(o:qs.length=J.ps.length)(p:RrP w' pb qs)(f:Only (atR pb) w w'):JrA B w' jb s pb sl {J with ps:=qs}:=by
 obtain⟨a1,j,l,q,m⟩:=h.apart;refine⟨?_,?_,p,h.lies,h.apart⟩
 ·show w'.heap[jb]?=_;rw[f.block _ h.lt (fun e=>l e.symm),h.head,o]
 have b:=h.model;exact⟨b.lies,(f.block _ b.lt (fun e=>j e.symm)).trans b.head,bC b.owns fun k i=>f.block _ (b.owns.lt k i).2 (fun e=>m (by rw[i,e])),b.apart,b.ok,b.small⟩
theorem JrA.setN(h:JrA B w jb s pb sl J)(m:Int):JrA B (w.setCell ⟨jb,2,.none⟩ (.int .i64 m)) jb s pb sl {J with m:=m}/\Only (atR jb) w (w.setCell ⟨jb,2,.none⟩ (.int .i64 m)):=by
 obtain⟨a1,o,j,l,q⟩:=h.apart;have f:Only (atR jb) w (w.setCell ⟨jb,2,.none⟩ (.int .i64 m)):=(Only.refl (atR jb) w).setCell (p:=⟨jb,2,.none⟩) (.inl (show atR jb jb from rfl)) _;refine⟨⟨by rw[heap_setCell_same w jb 2 _ _ _ h.head];rfl,?_,h.row.of_block (f.block _ h.row.lt (fun e=>j e)),h.lies,h.apart⟩,f⟩;have b:=h.model;exact⟨b.lies,(f.block _ b.lt (fun e=>a1 e.symm)).trans b.head,bC b.owns fun k i=>f.block _ (b.owns.lt k i).2 (fun e=>l (by rw[i,e])),b.apart,b.ok,b.small⟩
end

structure zC (B:Nat) (w w':World) (jb s pb:Nat) (sl:Value) (J':Jd):Prop where
 judge:∃ sl',JrA B w' jb s pb sl' J'/\(∀ k,sl'.ownBlock=some k->sl.ownBlock=some k\/w.heap.size<=k)
 only:Only (cF jb s pb sl) w w'
theorem zC.lower{B:Nat}{w W w':World}{jb s pb:Nat}{sl:Value}{J:Jd}(hb:Below w.heap.size w W)(i:zC B W w' jb s pb sl J):zC B w w' jb s pb sl J:=by
 obtain⟨⟨sl',b,f⟩,j⟩:=i;refine⟨⟨sl',b,fun k e=>?_⟩,(Only.of_below hb).trans j fun _ _ e=>e⟩;rcases f k e with h1|h1
 ·exact .inl h1
 exact .inr (by have:=hb.size;omega)
structure Fine (W:Int) (l:List Bk) (p:Pt) (e:Ev) (l':List Bk) (v:Pt):Prop where
 kinds:(e.k=0/\p.was=false/\l'=l/\v= { p with was:=true,lives:=true })\/
  (e.k=1/\p.lives=true/\(p.asks=true->p.took=false)/\l'=l/\v= { p with lives:=false,asks:=false })\/
  (e.k=2/\p.lives=true/\p.asks=false/\1<=e.ok/\e.ok<=4/\l'=l/\v=⟨true,true,true,e.ok,e.oa,e.on,false,false,0,false⟩)\/
  (e.k=3/\p.lives=true/\p.asks=true/\(p.k=1\/p.k≠1/\p.k=3/\p.gave=true)/\p.took=false/\lenB p.n=true/\lenV p.n=e.n/\AB W l e.at' e.n=true/\l'=putB l e.at' e.n/\v= { p with took:=true,at':=e.at' })\/
  (e.k=4/\p.lives=true/\p.asks=true/\(p.k=2\/p.k≠2/\p.k=3)/\p.gave=false/\e.at'=p.a/\iB e.at' l=true/\l'=DB l e.at'/\v= { p with gave:=true })\/
  (e.k=5/\p.lives=true/\p.asks=true/\DC p e=true/\l'=l/\v= { p with asks:=false })
theorem yqk{J:Jd}{e:Ev}(h:(whyJ J.W J.l J.ps e).c=0):∃ (i:Nat) (p v:Pt) (l':List Bk) (hi:i<J.ps.length),e.c=(i:Int)/\J.ps[i]=p/\Fine J.W J.l p e l' v/\(whyJ J.W J.l J.ps e).l=l'/\(whyJ J.W J.l J.ps e).ps=J.ps.set i v:=by
 unfold whyJ at h ⊢;split at h
 ·cases h
 rename_i hc;rw[jN hc];obtain⟨i,hi⟩:∃ i:Nat,e.c=(i:Int):=⟨e.c.toNat,by omega⟩;have q:i<J.ps.length:=by omega
 have z:e.c.toNat=i:=by omega
 have D:J.ps.getD i Pt.zero=J.ps[i]:=by rw[List.getD_eq_getElem?_getD,List.getElem?_eq_getElem q];rfl
 rw[z,D]at h ⊢;generalize M:J.ps[i]=p at *;have b:∀ (l':List Bk) (v:Pt),Fine J.W J.l p e l' v->∃ (i':Nat) (G v':Pt) (r:List Bk) (L:i'<J.ps.length),e.c=(i':Int)/\J.ps[i']=G/\Fine J.W J.l G e r v'/\l'=r/\J.ps.set i v=J.ps.set i' v':=fun l' v I=>⟨i,p,v,l',q,hi,M,I,rfl,rfl⟩;split at h
 ·rename_i h3;rw[jP h3];dsimp only at h ⊢;have hb:LD p e=if e.k=0 then {p with was:=true,lives:=true} else if e.k=1 then {p with lives:=false,asks:=false} else⟨true,true,true,e.ok,e.oa,e.on,false,false,0,false⟩:=by unfold LD;rw[jN (by omega)]
  rw[hb];unfold rD at h;by_cases h0:e.k=0
  ·rw[jP h0]at h ⊢;refine b _ _ ⟨.inl ⟨h0,?_,rfl,rfl⟩⟩;cases hw:p.was with
   |false=>rfl
   |true=>rw[hw]at h;cases h
  rw[jN h0]at h ⊢;by_cases h1:e.k=1
  ·rw[jP h1]at h ⊢;refine b _ _ ⟨.inr (.inl ⟨h1,?_,?_,rfl,rfl⟩)⟩
   ·cases hw:p.lives with
    |true=>rfl
    |false=>rw[hw]at h;cases h
   intro t;cases f:p.took with
   |false=>rfl
   |true=>
    cases hw:p.lives with
    |true=>rw[hw,jN (by decide),jP ⟨t,f⟩]at h;cases h
    |false=>rw[hw]at h;cases h
  rw[jN h1]at h ⊢;split at h
  ·cases h
  rename_i C;simp only[not_or,Bool.not_eq_false,Bool.not_eq_true]at C;exact b _ _ ⟨.inr (.inr (.inl ⟨by omega,C.1,C.2.1,by omega,by omega,rfl,rfl⟩))⟩
 rename_i h3;rw[jN h3];split at h
 ·cases h
 rename_i j;rw[jN j];simp only[not_or,Bool.not_eq_false]at j;by_cases h4:e.k=3
 ·rw[jP h4]at h ⊢;split at h
  ·rename_i f;rw[jP f];refine b _ _ ⟨.inr (.inr (.inr (.inl ?_)))⟩;unfold HF at f;split at f
   ·cases f
   rename_i hb;simp only[not_or,Bool.not_eq_false,Bool.not_eq_true,ne_eq,Decidable.not_not]at hb;obtain⟨k1,E,F,N⟩:=hb;split at f
   ·rename_i o;refine⟨h4,j.1,j.2,?_,E,F,N,o,rfl,rfl⟩;simp only[mayT,Bool.or_eq_true,decide_eq_true_eq,jC]at k1;by_cases m:p.k=1
    ·exact .inl m
    exact .inr ⟨m,by rcases k1 with k1|k1;exact absurd k1 m;exact k1⟩
   cases f
  rename_i f;exact absurd h f
 rw[jN h4]at h ⊢;by_cases y:e.k=4
 ·rw[jP y]at h ⊢;split at h
  ·rename_i f;rw[jP f];refine b _ _ ⟨.inr (.inr (.inr (.inr (.inl ?_))))⟩;unfold IF at f;split at f
   ·cases f
   rename_i hb;simp only[not_or,Bool.not_eq_false,Bool.not_eq_true,ne_eq,Decidable.not_not]at hb;obtain⟨k1,E,F⟩:=hb;split at f
   ·rename_i o;refine⟨y,j.1,j.2,?_,E,F,o,rfl,rfl⟩;simp only[mayG,Bool.or_eq_true,decide_eq_true_eq]at k1;by_cases m:p.k=2
    ·exact .inl m
    exact .inr ⟨m,by rcases k1 with k1|k1;exact absurd k1 m;exact k1⟩
   cases f
  rename_i f;exact absurd h f
 rw[jN y]at h ⊢;split at h
 ·rename_i t;rw[jP t];exact b _ _ ⟨.inr (.inr (.inr (.inr (.inr ⟨by omega,j.1,j.2,t,rfl,rfl⟩))))⟩
 cases h
end

section

def Ev.fit (e:Ev):Prop:=(-9223372036854775808<=e.at'/\e.at'<=9223372036854775807)/\(-9223372036854775808<=e.n/\e.n<=9223372036854775807)
theorem gS(W:Int)(l:List Bk)(ps:List Pt)(e:Ev):(whyJ W l ps e).ps.length=ps.length:=by
 unfold whyJ;repeat' split
 all_goals simp
theorem yoz(J:Jd)(e:Ev):(CA J e).ps.length=J.ps.length:=by
 unfold CA;split
 ·rfl
 split
 ·exact gS _ _ _ _
 rw[List.length_map];exact gS _ _ _ _
theorem ypz(J:Jd)(es:List Ev):(runJ J es).ps.length=J.ps.length:=by
 induction es generalizing J with
 |nil=>rfl
 |cons e es b=>rw[oK,b,yoz]
theorem yrl(J:Jd)(e:Ev):J.m<=(CA J e).m/\(CA J e).m<=J.m+1:=by
 unfold CA;split
 ·omega
 split
 ·simp;omega
 simp;omega
theorem yrz(J:Jd)(es:List Ev):J.m<=(runJ J es).m/\(runJ J es).m<=J.m+es.length:=by
 induction es generalizing J with
 |nil=>simp[runJ];|cons e es b=>have h1:=yrl J e;have h2:=b (CA J e);rw[oK,List.length_cons];omega
theorem yqr(p c m:Int):(newJ p c m).ps.length<=12/\(newJ p c m).m=0:=by
 unfold newJ;split
 ·rename_i h;have:=LA.1 h;simp;omega
 simp
theorem DR(p c m:Int)(es:List Ev)(h:es.length<=100000000):(0<=(runJ (newJ p c m) es).m/\(runJ (newJ p c m) es).m<=1000000000)/\(runJ (newJ p c m) es).ps.length<=100:=by
 have h1:=yqr p c m;have h2:=yrz (newJ p c m) es;rw[ypz];omega
theorem KR{J:Jd}{es:List Ev}(h:(runJ J es).why=0)(i:Nat)(hi:i<es.length):CG (runJ J (es.take i)) es[i]=true:=by
 have h1:(CA (runJ J (es.take i)) es[i]).why=0:=by rw[<-List.take_append_drop (i+1) es,YE]at h;have h2:=ZE h;rwa [List.take_succ_eq_append_getElem hi,AN]at h2
 have h0:(runJ J (es.take i)).why=0:=ZE (es:= [es[i]]) h1;exact(HI _ _).2 ⟨h0,XG h0 h1⟩
variable {s:Sh} {d:Wd} {n:Nat}

theorem rS(h:AI s d n):(jdOf s d).why=0:=by
 obtain⟨_,_,_,b⟩:=h;exact b.why
end

end Go.Proofs.YtkilokkopbajkaaGreat
