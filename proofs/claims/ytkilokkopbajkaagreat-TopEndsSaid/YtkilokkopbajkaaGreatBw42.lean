
import Derived.Test.YtkilokkopbajkaaGreatBw40

set_option linter.all false
set_option maxHeartbeats 4000000
set_option maxRecDepth 100000
namespace Go.Proofs.YtkilokkopbajkaaGreat

open RowKit

attribute [local go_sem ↓] wp_at_zero wp_at_succ

theorem Only.mono'{F G:Nat->Prop}{a b:World}(h:Only F a b)(f:∀k,F k->G k):Only G a b:=⟨h.os,h.tape,h.output,h.size,λk i j=>h.block k i (λe=>j (f k e))⟩
theorem CY(l:List Ch):∀(j:Nat) (h:j<l.length) (k:Nat),k<6->(l.flatMap Ch.cells)[j*6+k]?=(l[j]).cells[k]?:=by
 induction l with
 |nil=>intro j h;simp at h
 |cons a l m=>
  intro j h k i
  have f:a.cells.length=6:=rfl
  rw[List.flatMap_cons]
  cases j with
  |zero=>rw[Nat.zero_mul,Nat.zero_add,List.getElem?_append_left (by omega)];rfl
  |succ j=>
   rw[List.getElem?_append_right (by omega),f,show (j+1)*6+k-6=j*6+k by omega]
   exact m j (by simpa using h) k i
theorem yk5(a b:Int)(w:World):(Instr.field 82 (.agg #[a,b]) 1).run Tryz.prog w=.ok (.int .i64 b) w:=by kernel_rfl
theorem ynw{i:Int}{b:Bk}{l:List Bk}(e:b.a=i)(f:WA i (b::l)=true):nB (b::l) i=l:=by
 unfold nB;rw[jP f];unfold OF;have j:posB i (b::l)=0:=by unfold posB;rw[jN (by omega)]
 rw[j];rfl
section

variable {s:Sh}{d:Wd}{n:Nat}{c:Int}

theorem yr7(h:AI s d n):okK (s.p*64) 0 (jdOf s d).l:=by
 obtain⟨_,σ,_,f⟩:=h;have:=f.bl.ok;rw[f.W]at this;exact this
end

section

variable {s:Sh}{d:Wd}{n:Nat}

theorem yq0(h:AI s d n):(jdOf s d).why=0:=by
 obtain⟨_,_,_,f⟩:=h;exact f.why
end

def rpC (p:Pt):List Value:=[.bool p.was,.bool p.lives,.bool p.asks,.bool p.took,.bool p.gave,.bool p.ab,.int .i64 p.k,.int .i64 p.a,.int .i64 p.n,.int .i64 p.at']
theorem pO(p:Pt):(rpC p).length=10:=rfl
def rpsC (ps:List Pt):List Value:=ps.flatMap rpC
theorem xS(ps:List Pt):(rpsC ps).length=ps.length*10:=FP rpC 10 pO ps
theorem NR(a b:List Pt):rpsC (a++b)=rpsC a++rpsC b:=by simp[rpsC]
theorem qS(ps:List Pt)(i j:Nat)(hi:i<ps.length)(f:j<10):(rpsC ps)[i*10+j]?=(rpC ps[i])[j]?:=gN rpC 10 pO ps i j hi f
theorem yon(ps:List Pt)(i j:Nat)(v:Value)(q:Pt)(hi:i<ps.length)(f:j<10)(m:(rpC ps[i]).set j v=rpC q):(rpsC ps).set (i*10+j) v=rpsC (ps.set i q):=by
 have e:ps=ps.take i++ps[i]::ps.drop (i+1):=by rw[List.getElem_cons_drop,List.take_append_drop]
 have l:(ps.take i).length=i:=by rw[List.length_take];omega
 have o:ps.set i q=ps.take i++q::ps.drop (i+1):=by rw[List.set_eq_take_append_cons_drop,jP hi]
 have h1:rpsC ps=rpsC (ps.take i)++(rpC ps[i]++rpsC (ps.drop (i+1))):=by
  conv=>lhs;rw[e]
  rw[NR];rfl
 have h2:rpsC (ps.set i q)=rpsC (ps.take i)++(rpC q++rpsC (ps.drop (i+1))):=by rw[o,NR];rfl
 have h3:(rpsC (ps.take i)).length=i*10:=by rw[xS,l]
 rw[h1,h2,List.set_append_right _ _ (by omega),h3,Nat.add_sub_cancel_left,List.set_append_left _ _ (by rw[pO];exact f),m]
def RrP (w:World) (pb:Nat) (ps:List Pt):Prop:=w.heap[pb]?=some (.cells (rpsC ps).toArray 135 (0,0))
section

variable {w w':World}{pb:Nat}{ps:List Pt}

theorem RrP.lt(h:RrP w pb ps):pb<w.heap.size:=(jE h)
theorem RrP.of_block(h:RrP w pb ps)(hb:w'.heap[pb]?=w.heap[pb]?):RrP w' pb ps:=hb.trans h
theorem RrP.cell(h:RrP w pb ps)(i j:Nat)(hi:i<ps.length)(f:j<10):w.cell? ⟨pb,i*10+j,.none⟩=(rpC ps[i])[j]?:=by
 rw[iA h,List.getElem?_toArray];exact qS ps i j hi f
theorem RrP.fr(h:RrP w pb ps)(j:Nat):w.frozen? ⟨pb,j,.none⟩=false:=KA h j
theorem RrP.set(h:RrP w pb ps)(i j:Nat)(v:Value)(q:Pt)(hi:i<ps.length)(f:j<10)(l:(rpC ps[i]).set j v=rpC q):RrP (w.setCell ⟨pb,i*10+j,.none⟩ v) pb (ps.set i q):=by
 unfold RrP at*;rw[heap_setCell_same w pb _ _ _ _ h,List.setIfInBounds_toArray,yon ps i j v q hi f l]
end

structure RpAt (w:World) (b o:Nat) (p:Pt):Prop where
 lt:b<w.heap.size
 c0:w.cell? ⟨b,o,.none⟩=some (.bool p.was)
 c1:w.cell? ⟨b,o+1,.none⟩=some (.bool p.lives)
 c2:w.cell? ⟨b,o+2,.none⟩=some (.bool p.asks)
 c3:w.cell? ⟨b,o+3,.none⟩=some (.bool p.took)
 c4:w.cell? ⟨b,o+4,.none⟩=some (.bool p.gave)
 c5:w.cell? ⟨b,o+5,.none⟩=some (.bool p.ab)
 c6:w.cell? ⟨b,o+6,.none⟩=some (.int .i64 p.k)
 c7:w.cell? ⟨b,o+7,.none⟩=some (.int .i64 p.a)
 c8:w.cell? ⟨b,o+8,.none⟩=some (.int .i64 p.n)
 c9:w.cell? ⟨b,o+9,.none⟩=some (.int .i64 p.at')
 fr:∀j,w.frozen? ⟨b,j,.none⟩=false
theorem RrP.pt{w:World}{pb:Nat}{ps:List Pt}(h:RrP w pb ps)(i:Nat)(hi:i<ps.length){p:Pt}(f:ps[i]=p):RpAt w pb (i*10) p:=by
 subst f;exact⟨h.lt,h.cell i 0 hi (by omega),h.cell i 1 hi (by omega),h.cell i 2 hi (by omega),h.cell i 3 hi (by omega),h.cell i 4 hi (by omega),h.cell i 5 hi (by omega),h.cell i 6 hi (by omega),h.cell i 7 hi (by omega),h.cell i 8 hi (by omega),h.cell i 9 hi (by omega),h.fr⟩
theorem RpAt.below{w w':World}{b o:Nat}{p:Pt}(h:RpAt w b o p)(hb:Below w.heap.size w w'):RpAt w' b o p:=
 ⟨Nat.lt_of_lt_of_le h.lt hb.size,kA hb _ _ _ h.c0,kA hb _ _ _ h.c1,kA hb _ _ _ h.c2,kA hb _ _ _ h.c3,kA hb _ _ _ h.c4,kA hb _ _ _ h.c5,kA hb _ _ _ h.c6,kA hb _ _ _ h.c7,kA hb _ _ _ h.c8,kA hb _ _ _ h.c9,λj=>(hb.frozen (p:=⟨b,j,.none⟩) h.lt).trans (h.fr j)⟩
def atR (b:Nat):Nat->Prop:=λk=>k=b
theorem RrP.put{w X:World}{pb i:Nat}{ps:List Pt}{q q':Pt}(hi:i<ps.length)(j:Nat)(v:Value)(h1:Only (atR pb) w X)(h2:RrP X pb (ps.set i q))(h4:(rpC q).set j v=rpC q')(f:j<10):Only (atR pb) w (X.setCell ⟨pb,i*10+j,.none⟩ v)/\RrP (X.setCell ⟨pb,i*10+j,.none⟩ v) pb (ps.set i q'):=by
 refine⟨h1.setCell (p:=⟨pb,i*10+j,.none⟩) (.inl rfl) v,?_⟩;have:=h2.set i j v q' (by rw[List.length_set];exact hi) f (by rw[List.getElem_set_self];exact h4);rwa [List.set_set]at this
def rvV (pb n:Nat):Value:=.slice (some ⟨pb,0,.none⟩) n n
structure JrA (B:Nat) (w:World) (jb s pb:Nat) (sl:Value) (J:Jd):Prop where
 head:w.heap[jb]?=some (.cells #[some s,rvV pb J.ps.length,J.m,J.at',J.why] 84 (0,0))
 model:RM B w s sl J.W J.l
 row:RrP w pb J.ps
 lies:B<=jb/\B<=pb
 apart:jb≠s/\pb≠s/\pb≠jb/\sl.ownBlock≠some jb/\sl.ownBlock≠some pb
def gH (jb s pb:Nat) (sl:Value):Nat->Prop:=λk=>k=jb\/k=pb\/foot s sl k
section

variable {B:Nat}{w w':World}{jb s pb:Nat}{sl sl':Value}{J:Jd}

theorem JrA.lt(h:JrA B w jb s pb sl J):jb<w.heap.size:=(jE h.head)
theorem JrA.below(h:JrA B w jb s pb sl J)(hb:Below w.heap.size w w'):JrA B w' jb s pb sl J:=
 ⟨(hb.block _ h.lt).trans h.head,h.model.below hb,h.row.of_block (hb.block _ h.row.lt),h.lies,h.apart⟩
theorem JrA.h0(h:JrA B w jb s pb sl J):w.cell? ⟨jb,0,.none⟩=some (.pointer (some ⟨s,0,.none⟩)):=iA h.head 0
theorem JrA.h1(h:JrA B w jb s pb sl J):w.cell? ⟨jb,1,.none⟩=some (rvV pb J.ps.length):=iA h.head 1
theorem JrA.h2(h:JrA B w jb s pb sl J):w.cell? ⟨jb,2,.none⟩=some (.int .i64 J.m):=iA h.head 2
theorem JrA.h3(h:JrA B w jb s pb sl J):w.cell? ⟨jb,3,.none⟩=some (.int .i64 J.at'):=iA h.head 3
theorem JrA.h4(h:JrA B w jb s pb sl J):w.cell? ⟨jb,4,.none⟩=some (.int .i64 J.why):=iA h.head 4
theorem JrA.fr(h:JrA B w jb s pb sl J)(i:Nat):w.frozen? ⟨jb,i,.none⟩=false:=KA h.head i
theorem JrA.yqj(h:JrA B w jb s pb sl J):∀k,gH jb s pb sl k->B<=k/\k<w.heap.size:=by
 rintro k (rfl|rfl|rfl|e)
 .exact⟨h.lies.1,h.lt⟩
 .exact⟨h.lies.2,h.row.lt⟩
 .exact⟨h.model.lies,h.model.lt⟩
 exact h.model.owns.lt k e
theorem JrA.blocks(h:JrA B w jb s pb sl J)(hb:∀k,gH jb s pb sl k->w'.heap[k]?=w.heap[k]?):JrA B w' jb s pb sl J:=
 ⟨(hb _ (.inl rfl)).trans h.head,h.model.blocks λk f=>hb k (.inr (.inr f)),h.row.of_block (hb _ (.inr (.inl rfl))),h.lies,h.apart⟩
theorem JrA.setM(h:JrA B w jb s pb sl J){l':List Bk}(t:RM B w' s sl' J.W l')(m:Only (foot s sl) w w')(i:∀k,foot s sl' k->foot s sl k\/w.heap.size<=k):JrA B w' jb s pb sl' {J with l:=l'}:=by
 obtain⟨a1,f,p,q,r⟩:=h.apart;have j:¬foot s sl jb:=by rintro(e|e);exact a1 e;exact q e
 have o:¬foot s sl pb:=by rintro(e|e);exact f e;exact r e
 refine⟨(m.block _ h.lt j).trans h.head,t,h.row.of_block (m.block _ h.row.lt o),h.lies,a1,f,p,λe=>?_,λe=>?_⟩
 .rcases i jb (.inr e) with h1|h1
  .exact j h1
  have:=h.lt;omega
 rcases i pb (.inr e) with h1|h1
 .exact o h1
 have:=h.row.lt;omega
theorem JrA.setP(h:JrA B w jb s pb sl J){qs:List Pt}(p:qs.length=J.ps.length)(q:RrP w' pb qs)(i:Only (atR pb) w w'):JrA B w' jb s pb sl {J with ps:=qs}:=by
 obtain⟨a1,l,m,r,o⟩:=h.apart;refine⟨?_,?_,q,h.lies,h.apart⟩
 .show w'.heap[jb]?=_;rw[i.block _ h.lt (λe=>m e.symm),h.head,p]
 have f:=h.model;exact⟨f.lies,(i.block _ f.lt (λe=>l e.symm)).trans f.head,oC f.owns λk j=>i.block _ (f.owns.lt k j).2 (λe=>o (by rw[j,e])),f.apart,f.ok,f.small⟩
theorem JrA.setN(h:JrA B w jb s pb sl J)(m:Int):JrA B (w.setCell ⟨jb,2,.none⟩ (.int .i64 m)) jb s pb sl {J with m:=m}/\Only (atR jb) w (w.setCell ⟨jb,2,.none⟩ (.int .i64 m)):=by
 obtain⟨a1,q,l,o,r⟩:=h.apart;have i:Only (atR jb) w (w.setCell ⟨jb,2,.none⟩ (.int .i64 m)):=(Only.refl (atR jb) w).setCell (p:=⟨jb,2,.none⟩) (.inl (show atR jb jb from rfl)) _;refine⟨⟨by rw[heap_setCell_same w jb 2 _ _ _ h.head];rfl,?_,h.row.of_block (i.block _ h.row.lt (λe=>l e)),h.lies,h.apart⟩,i⟩;have f:=h.model;exact⟨f.lies,(i.block _ f.lt (λe=>a1 e.symm)).trans f.head,oC f.owns λk j=>i.block _ (f.owns.lt k j).2 (λe=>o (by rw[j,e])),f.apart,f.ok,f.small⟩
end

structure GC (B:Nat) (w w':World) (jb s pb:Nat) (sl:Value) (J':Jd):Prop where
 judge:∃sl',JrA B w' jb s pb sl' J'/\(∀k,sl'.ownBlock=some k->sl.ownBlock=some k\/w.heap.size<=k)
 only:Only (gH jb s pb sl) w w'
theorem GC.lower{B:Nat}{w W w':World}{jb s pb:Nat}{sl:Value}{J:Jd}(hb:Below w.heap.size w W)(j:GC B W w' jb s pb sl J):GC B w w' jb s pb sl J:=by
 obtain⟨⟨sl',f,i⟩,l⟩:=j;refine⟨⟨sl',f,λk e=>?_⟩,(Only.of_below hb).trans l λ_ _ e=>e⟩;rcases i k e with h1|h1
 .exact .inl h1
 exact .inr (by have:=hb.size;omega)
structure Fine (W:Int) (l:List Bk) (p:Pt) (e:Ev) (l':List Bk) (v:Pt):Prop where
 kinds:(e.k=0/\p.was=false/\l'=l/\v={p with was:=true,lives:=true})\/
  (e.k=1/\p.lives=true/\(p.asks=true->p.took=false)/\l'=l/\v={p with lives:=false,asks:=false})\/
  (e.k=2/\p.lives=true/\p.asks=false/\1<=e.ok/\e.ok<=4/\l'=l/\v=⟨true,true,true,e.ok,e.oa,e.on,false,false,0,false⟩)\/
  (e.k=3/\p.lives=true/\p.asks=true/\(p.k=1\/p.k≠1/\p.k=3/\p.gave=true)/\p.took=false/\lenB p.n=true/\lenV p.n=e.n/\OB W l e.at' e.n=true/\l'=putB l e.at' e.n/\v={p with took:=true,at':=e.at'})\/
  (e.k=4/\p.lives=true/\p.asks=true/\(p.k=2\/p.k≠2/\p.k=3)/\p.gave=false/\e.at'=p.a/\WA e.at' l=true/\l'=nB l e.at'/\v={p with gave:=true})\/
  (e.k=5/\p.lives=true/\p.asks=true/\JC p e=true/\l'=l/\v={p with asks:=false})
theorem yqp{J:Jd}{e:Ev}(h:(whyJ J.W J.l J.ps e).c=0):∃(i:Nat) (p v:Pt) (l':List Bk) (hi:i<J.ps.length),e.c=(i:Int)/\J.ps[i]=p/\Fine J.W J.l p e l' v/\(whyJ J.W J.l J.ps e).l=l'/\(whyJ J.W J.l J.ps e).ps=J.ps.set i v:=by
 unfold whyJ at h|-;split at h
 .cases h
 rename_i hc;rw[jN hc];obtain⟨i,hi⟩:∃i:Nat,e.c=(i:Int):=⟨e.c.toNat,by omega⟩;have r:i<J.ps.length:=by omega
 have C:e.c.toNat=i:=by omega
 have E:J.ps.getD i Pt.zero=J.ps[i]:=by rw[List.getD_eq_getElem?_getD,List.getElem?_eq_getElem r];rfl
 rw[C,E]at h|-;generalize M:J.ps[i]=p at*;have f:∀(l':List Bk) (v:Pt),Fine J.W J.l p e l' v->∃(i':Nat) (H v':Pt) (t:List Bk) (L:i'<J.ps.length),e.c=(i':Int)/\J.ps[i']=H/\Fine J.W J.l H e t v'/\l'=t/\J.ps.set i v=J.ps.set i' v':=λl' v I=>⟨i,p,v,l',r,hi,M,I,rfl,rfl⟩;split at h
 .rename_i h3;rw[jP h3];dsimp only at h|-;have hb:jG p e=if e.k=0 then {p with was:=true,lives:=true} else if e.k=1 then {p with lives:=false,asks:=false} else⟨true,true,true,e.ok,e.oa,e.on,false,false,0,false⟩:=by unfold jG;rw[jN (by omega)]
  rw[hb];unfold dF at h;by_cases h0:e.k=0
  .rw[jP h0]at h|-;refine f _ _ ⟨.inl ⟨h0,?_,rfl,rfl⟩⟩;cases hw:p.was with
   |false=>rfl
   |true=>rw[hw]at h;cases h
  rw[jN h0]at h|-;by_cases h1:e.k=1
  .rw[jP h1]at h|-;refine f _ _ ⟨.inr (.inl ⟨h1,?_,?_,rfl,rfl⟩)⟩
   .cases hw:p.lives with
    |true=>rfl
    |false=>rw[hw]at h;cases h
   intro y;cases j:p.took with
   |false=>rfl
   |true=>
    cases hw:p.lives with
    |true=>rw[hw,jN (by decide),jP ⟨y,j⟩]at h;cases h
    |false=>rw[hw]at h;cases h
  rw[jN h1]at h|-;split at h
  .cases h
  rename_i D;simp only[not_or,Bool.not_eq_false,Bool.not_eq_true]at D;exact f _ _ ⟨.inr (.inr (.inl ⟨by omega,D.1,D.2.1,by omega,by omega,rfl,rfl⟩))⟩
 rename_i h3;rw[jN h3];split at h
 .cases h
 rename_i m;rw[jN m];simp only[not_or,Bool.not_eq_false]at m;by_cases h4:e.k=3
 .rw[jP h4]at h|-;split at h
  .rename_i j;rw[jP j];refine f _ _ ⟨.inr (.inr (.inr (.inl ?_)))⟩;unfold TF at j;split at j
   .cases j
   rename_i hb;simp only[not_or,Bool.not_eq_false,Bool.not_eq_true,ne_eq,Decidable.not_not]at hb;obtain⟨k1,F,G,O⟩:=hb;split at j
   .rename_i q;refine⟨h4,m.1,m.2,?_,F,G,O,q,rfl,rfl⟩;simp only[mayT,Bool.or_eq_true,decide_eq_true_eq,jC]at k1;by_cases o:p.k=1
    .exact .inl o
    exact .inr ⟨o,by rcases k1 with k1|k1;exact absurd k1 o;exact k1⟩
   cases j
  rename_i j;exact absurd h j
 rw[jN h4]at h|-;by_cases z:e.k=4
 .rw[jP z]at h|-;split at h
  .rename_i j;rw[jP j];refine f _ _ ⟨.inr (.inr (.inr (.inr (.inl ?_))))⟩;unfold UF at j;split at j
   .cases j
   rename_i hb;simp only[not_or,Bool.not_eq_false,Bool.not_eq_true,ne_eq,Decidable.not_not]at hb;obtain⟨k1,F,G⟩:=hb;split at j
   .rename_i q;refine⟨z,m.1,m.2,?_,F,G,q,rfl,rfl⟩;simp only[mayG,Bool.or_eq_true,decide_eq_true_eq]at k1;by_cases o:p.k=2
    .exact .inl o
    exact .inr ⟨o,by rcases k1 with k1|k1;exact absurd k1 o;exact k1⟩
   cases j
  rename_i j;exact absurd h j
 rw[jN z]at h|-;split at h
 .rename_i y;rw[jP y];exact f _ _ ⟨.inr (.inr (.inr (.inr (.inr ⟨by omega,m.1,m.2,y,rfl,rfl⟩))))⟩
 cases h
theorem yls(p:Pt)(e:Ev)(b o:Nat)(w:World)(h:RpAt w b o p):
  Calls Tryz.prog 138 #[.pointer (some ⟨b,o,.none⟩),e.val] w λr w'=>r=.returned (.bool (JC p e))/\Below w.heap.size w w':=by
 unfold Ev.val Ev.cells;have i:=λX=>NK p.n X;have j:=(Below.refl w.heap.size w).alloc lr (.cells #[e.k,e.c,e.ok,e.oa,e.on,e.at',e.n,e.er] 62);have h2:=h.below j;have t1:=jA w (.cells #[e.k,e.c,e.ok,e.oa,e.on,e.at',e.n,e.er] 62);go_in;go_upto_region 1 with fail;generalize w.alloc (.cells #[e.k,e.c,e.ok,e.oa,e.on,e.at',e.n,e.er] 62)=W at*;obtain⟨D,c0,c1,c2,c3,c4,c5,c6,c7,c8,c9,l⟩:=h2;have m:=iA t1 5;have q:=iA t1 7;clear c0 c1 c2 c7 l t1 h;have z:W.cell? ⟨w.heap.size,5,.none⟩=some (.int .i64 e.at'):=m;have C:W.cell? ⟨w.heap.size,7,.none⟩=some (.int .i64 e.er):=q;clear m q;replace i:=hd' i;go_wp2_with (first|(go_at_call 19;refine(i _).mono ?_;rintro r F ⟨rfl,E⟩;obtain rfl:=E.symm))
 all_goals first
  |go_returns
  |(rcases jB p.took with y|y<;>rw[y]at c3<;>(go_quiet (fail))<;>go_wp2<;>go_returns)
 all_goals exact⟨RG (by clear c3 c4 c5 c6 c8 c9 z C i j;first|(simp_all [JC,FE,GF];done)|(rw[Bool.eq_iff_iff];simp_all [JC,FE,GF])),by first|exact j|exact below_drewN j _⟩
theorem yn2{B:Nat}{w:World}{jb s pb:Nat}{sl:Value}{J:Jd}(h:JrA B w jb s pb sl J)(e:Ev)(i o:Nat)(p:Pt)(hi:i<J.ps.length)(hp:J.ps[i]=p)(H:o=i*10)(V:e.k=3/\(p.k=1\/p.k≠1/\p.k=3/\p.gave=true)/\p.took=false/\lenB p.n=true/\lenV p.n=e.n/\OB J.W J.l e.at' e.n=true):
  Calls Tryz.prog 110 #[some jb,.pointer (some ⟨pb,o,.none⟩),e.val] w λr w'=>r=.returned (.int .i64 0)/\GC B w w' jb s pb sl {J with l:=putB J.l e.at' e.n,ps:=J.ps.set i {p with took:=true,at':=e.at'}}:=by
 obtain⟨S,V,ht,hl,hv,q⟩:=V;replace S:=hd' S;have bb:(-9223372036854775808<=e.at'/\e.at'<=9223372036854775807)/\(-9223372036854775808<=e.n/\e.n<=9223372036854775807):=by
  have h1:IG J.W e.at' e.n=true:=by unfold OB at q;exact(Bool.and_eq_true_iff.1 q).1
  have h2:=h.model.small;simp only[IG,decide_eq_true_eq]at h1;omega
 obtain⟨ha,hn⟩:=bb;unfold Ev.val Ev.cells;have z:=(Below.refl w.heap.size w).alloc lr (.cells #[e.k,e.c,e.ok,e.oa,e.on,e.at',e.n,e.er] 62);have t1:=jA w (.cells #[e.k,e.c,e.ok,e.oa,e.on,e.at',e.n,e.er] 62);have hJ:=h.below z;obtain⟨bj,c0,c1,c2,c3,c4,c5,c6,c7,c8,c9,bc⟩:=H▸(hJ.row.pt i hi hp);replace H:=hd' H;replace hp:=hd' hp;replace hi:=hd' hi;have bk:=h.lt;have bm:=h.row.lt;have bn:=h.model.lt;have bg:∀k,sl.ownBlock=some k->k<w.heap.size:=λk V=>(h.model.owns.lt k V).2;have j:=λX=>NK p.n X;rw[hl,hv]at j;replace j:=hd' j;have bu:(e.n !=e.n)=false:=by simp
 have L:Hid (∀X,RM B X s sl J.W J.l->jK 28 #[some s,e.at',e.n] X λr w'=>r=.returned (.bool true)/\∃sl',RM B w' s sl' J.W (putB J.l e.at' e.n)/\Only (foot s sl) X w'/\∀k,foot s sl' k->foot s sl k\/X.heap.size<=k):=hd' λX hX=>by have:=ER hX e.at' e.n ha.1 ha.2 hn.1 hn.2;rwa [dO q,q]at this
 have G:Hid (∀X m sl',jW w X->JrA B X jb s pb sl J->RM B m s sl' J.W (putB J.l e.at' e.n)->Only (foot s sl) X m->(∀k,foot s sl' k->foot s sl k\/X.heap.size<=k)->GC B w m jb s pb sl {J with l:=putB J.l e.at' e.n}):=hd' λX m sl' hw hj hm H hf=>GC.lower hw ⟨⟨sl',hj.setM hm H hf,λk e=>by
  rcases hf k (.inr e) with(h1|h1)|h1
  .exact absurd (h1▸e) hm.apart
  .exact .inl h1
  .exact .inr h1⟩,H.mono' λk e=>.inr (.inr e)⟩
 clear hl hv q;rcases V with V|⟨bq,bs,hg⟩;all_goals
  go_in;go_upto_region 1 with fail;generalize w.alloc (.cells #[e.k,e.c,e.ok,e.oa,e.on,e.at',e.n,e.er] 62)=W at*;obtain⟨E,hE,Z⟩:=hidv w.heap.size;rw[<-Z]at t1|-;have e0:W.cell? ⟨E,0,.none⟩=some (.int .i64 e.k):=iA t1 0;rw[S]at e0;have e5:W.cell? ⟨E,5,.none⟩=some (.int .i64 e.at'):=iA t1 5;have b6:=iA t1;have h0:=hJ.h0;have lj:jb<W.heap.size:=hJ.lt;have lE:E<W.heap.size:=(jE t1);clear Z;go_upto_region 10 with(first|(go_at_call 19;refine(j _).mono ?_;rintro r w1 ⟨rfl,hw⟩;obtain rfl:=hw.symm));refine wret 8 ?_;repeat (go_big_quiet_step (fail))
  refine wqn λX ba=>?_;have C:=ba;have bh:=z.trans (C.mono z.size);have R:=hJ.below C;have y:=kA C _ _ _ e5;have b5:E<X.heap.size:=GG y;clear c0 c1 c2 c3 c4 c5 c6 c7 c8 c9 bc e0 e5 b6 h0 t1 C z hJ;go_wp2_with (first|(go_at_call 28;(with_reducible refine(L X R.model).mono ?_);rintro r m ⟨rfl,sl',hm,U,b1⟩));have b9:=G X m sl' bh R hm U b1;obtain⟨⟨bi,O,bf⟩,b0⟩:=b9;have b7:¬foot s sl E:=by
   have bp:=hE.out;rintro(e|e)
   .omega
   have:=bg E e;omega
  have M:m.cell? ⟨E,5,.none⟩=some (.int .i64 e.at'):=by have:=U.block E b5 b7;simp only[World.cell?,this]at y|-;exact y
  have bv:E<m.heap.size:=GG M;have F:RrP m pb J.ps:=O.row;have bw:pb<m.heap.size:=F.lt;have b8:E≠pb:=by have:=hE.out;omega
  have D:RpAt m pb o p:=H.out▸(F.pt i hi hp.out);have p3:=D.c3;have p9:=D.c9;have pf:=D.fr;have I:RrP m pb (J.ps.set i p):=by rw[<-hp,List.set_getElem_self];exact F
  have z0:=RrP.put (q':={p with took:=true}) hi 3 (.bool true) (Only.refl (atR pb) m) I rfl (by omega);have z1:=RrP.put (q':={p with took:=true,at':=e.at'}) hi 9 (.int .i64 e.at') z0.1 z0.2 rfl (by omega);rw[<-H]at z1;have T:Hid (∀W3,RrP W3 pb (J.ps.set i {p with took:=true,at':=e.at'})->Only (atR pb) m W3->GC B w W3 jb s pb sl {J with l:=putB J.l e.at' e.n,ps:=J.ps.set i {p with took:=true,at':=e.at'}}):=hd' λW3 hr b4=>⟨⟨bi,O.setP (by rw[List.length_set]) hr b4,bf⟩,b0.trans b4 λk _ e=>.inr (.inl e)⟩;replace z1:=hd' z1;clear z0 I D F O hm U b1 b0 G L R y b5;have b3:Hid (∀(Y:World) (a:Nat) (v:Value),Y.cell? ⟨E,5,.none⟩=some (.int .i64 e.at')->(Y.setCell ⟨pb,a,.none⟩ v).cell? ⟨E,5,.none⟩=some (.int .i64 e.at')):=hd' λY a v h=>by have:=heap_setCell_other Y ⟨pb,a,.none⟩ E v (by simpa using b8);simp only[World.cell?,this]at h|-;exact h
  have b2:Hid (∀(Y:World) (a:Nat) (v:Value),Y.cell? ⟨E,5,.none⟩=some (.int .i64 e.at')->(Y.setCell ⟨pb,a,.none⟩ v).drew.cell? ⟨E,5,.none⟩=some (.int .i64 e.at')):=hd' λY a v h=>b3 Y a v h
  go_region_held3 (λY=>Y.cell? ⟨E,5,.none⟩=some (.int .i64 e.at'))
   (first|exact b2 _ _ _ M|exact b2 _ _ _ (b3 _ _ _ M)|go_keep)
   (fail)
  go_wp2;go_ret;exact⟨rfl,T _ z1.out.2 z1.out.1.drew⟩
theorem ynl{B:Nat}{w:World}{jb s pb:Nat}{sl:Value}{J:Jd}(h:JrA B w jb s pb sl J)(e:Ev)(i o:Nat)(p:Pt)(hi:i<J.ps.length)(hp:J.ps[i]=p)(C:o=i*10)(R:e.k=4/\(p.k=2\/p.k≠2/\p.k=3)/\p.gave=false/\e.at'=p.a/\WA e.at' J.l=true):
  Calls Tryz.prog 110 #[some jb,.pointer (some ⟨pb,o,.none⟩),e.val] w λr w'=>r=.returned (.int .i64 0)/\GC B w w' jb s pb sl {J with l:=nB J.l e.at',ps:=J.ps.set i {p with gave:=true}}:=by
 obtain⟨M,R,hg,Z,b1⟩:=R;replace M:=hd' M;have bb:(e.at' !=p.a)=false:=by simpa using Z
 clear Z;unfold Ev.val Ev.cells;have H:=(Below.refl w.heap.size w).alloc lr (.cells #[e.k,e.c,e.ok,e.oa,e.on,e.at',e.n,e.er] 62);have t1:=jA w (.cells #[e.k,e.c,e.ok,e.oa,e.on,e.at',e.n,e.er] 62);have U:=h.below H;obtain⟨bc,c0,c1,c2,c3,c4,c5,c6,c7,c8,c9,b7⟩:=C▸(U.row.pt i hi hp);replace C:=hd' C;replace hp:=hd' hp;replace hi:=hd' hi;have bf:=h.lt;have bg:=h.row.lt;have bh:=h.model.lt;have bk:∀k,sl.ownBlock=some k->k<w.heap.size:=λk R=>(h.model.owns.lt k R).2;have z:Hid (∀X,RM B X s sl J.W J.l->jK 29 #[some s,e.at'] X λr w'=>r=.returned (.bool true)/\∃sl',RM B w' s sl' J.W (nB J.l e.at')/\Only (foot s sl) X w'/\∀k,foot s sl' k->foot s sl k\/X.heap.size<=k):=hd' λX hX=>by have:=jS hX e.at';rwa [b1]at this
 have y:Hid (∀X j sl',jW w X->JrA B X jb s pb sl J->RM B j s sl' J.W (nB J.l e.at')->Only (foot s sl) X j->(∀k,foot s sl' k->foot s sl k\/X.heap.size<=k)->GC B w j jb s pb sl {J with l:=nB J.l e.at'}):=hd' λX j sl' hw hj hm C hf=>GC.lower hw ⟨⟨sl',hj.setM hm C hf,λk e=>by
  rcases hf k (.inr e) with(h1|h1)|h1
  .exact absurd (h1▸e) hm.apart
  .exact .inl h1
  .exact .inr h1⟩,C.mono' λk e=>.inr (.inr e)⟩
 clear b1;rcases R with R|⟨bi,bj⟩;all_goals
  go_in;go_upto_region 1 with fail;generalize w.alloc (.cells #[e.k,e.c,e.ok,e.oa,e.on,e.at',e.n,e.er] 62)=W at*;obtain⟨E,hE,T⟩:=hidv w.heap.size;rw[<-T]at t1|-;have e0:W.cell? ⟨E,0,.none⟩=some (.int .i64 e.k):=iA t1 0;rw[M]at e0;have e5:W.cell? ⟨E,5,.none⟩=some (.int .i64 e.at'):=iA t1 5;have b3:=iA t1;have h0:=U.h0;have lj:jb<W.heap.size:=U.lt;have lE:E<W.heap.size:=(jE t1);clear T;go_upto_region 14 with fail;go_quiet (fail);have L:Below w.heap.size w (W.drewN nq):=below_drewN H nq;have m:JrA B (W.drewN nq) jb s pb sl J:=U.below (below_drewN br nq);have p4:(W.drewN nq).cell? ⟨pb,o+4,.none⟩=some (.bool p.gave):=c4;have S:(W.drewN nq).cell? ⟨E,5,.none⟩=some (.int .i64 e.at'):=e5;have b4:=m.h0;clear c0 c1 c2 c3 c4 c5 c6 c7 c8 c9 b7 e0 e5 b3 h0 t1 H U lj lE;generalize W.drewN nq=V at*;have lj:jb<V.heap.size:=m.lt;have lE:E<V.heap.size:=GG S;go_upto_region 16 with fail;refine wret 6 ?_;repeat (go_big_quiet_step (fail))
  refine wqn λX b6=>?_;have I:=b6;have b9:=L.trans (I.mono L.size);have G:=m.below I;clear m L S b4 p4 I;go_upto_region 18 with(first|(go_at_call 29;(with_reducible refine(z X G.model).mono ?_);rintro r j ⟨rfl,sl',hm,b2,b0⟩));have b5:=y X j sl' b9 G hm b2 b0;obtain⟨⟨ba,F,b8⟩,Y⟩:=b5;have q:RrP j pb J.ps:=F.row;have bm:pb<j.heap.size:=q.lt;have O:RpAt j pb o p:=C.out▸(q.pt i hi hp.out);have p4:=O.c4;have pf:=O.fr;have D:RrP j pb (J.ps.set i p):=by rw[<-hp,List.set_getElem_self];exact q
  have z0:=RrP.put (q':={p with gave:=true}) hi 4 (.bool true) (Only.refl (atR pb) j) D rfl (by omega);rw[<-C]at z0;have hL:GC B w (j.setCell ⟨pb,o+4,.none⟩ (.bool true)) jb s pb sl {J with l:=nB J.l e.at',ps:=J.ps.set i {p with gave:=true}}:=⟨⟨ba,F.setP (by rw[List.length_set]) z0.2 z0.1,b8⟩,Y.trans z0.1 λk _ e=>.inr (.inl e)⟩;clear q F hm b2 b0 Y y z G O z0 D;go_wp2;go_ret;exact⟨rfl,hL⟩
theorem ynb{B:Nat}{w:World}{jb s pb:Nat}{sl:Value}{J:Jd}(h:JrA B w jb s pb sl J)(e:Ev)(i o:Nat)(p:Pt)(hi:i<J.ps.length)(H:J.ps[i]=p)(G:o=i*10)(Z:e.k=5/\JC p e=true):
  Calls Tryz.prog 110 #[some jb,.pointer (some ⟨pb,o,.none⟩),e.val] w λr w'=>r=.returned (.int .i64 0)/\GC B w w' jb s pb sl {J with l:=J.l,ps:=J.ps.set i {p with asks:=false}}:=by
 obtain⟨m,M⟩:=Z;replace m:=hd' m;unfold Ev.val Ev.cells;have j:=(Below.refl w.heap.size w).alloc lr (.cells #[e.k,e.c,e.ok,e.oa,e.on,e.at',e.n,e.er] 62);have t1:=jA w (.cells #[e.k,e.c,e.ok,e.oa,e.on,e.at',e.n,e.er] 62);have F:=h.below j;obtain⟨b0,c0,c1,c2,c3,c4,c5,c6,c7,c8,c9,Y⟩:=G▸(F.row.pt i hi H);replace G:=hd' G;replace H:=hd' H;replace hi:=hd' hi;have b1:=h.lt;have b2:=h.row.lt;have b3:=h.model.lt;have b4:∀k,sl.ownBlock=some k->k<w.heap.size:=λk Z=>(h.model.owns.lt k Z).2;have O:Hid (∀X,RpAt X pb o p->jK 138 #[.pointer (some ⟨pb,o,.none⟩),.agg #[.int .i64 5,e.c,e.ok,e.oa,e.on,e.at',e.n,e.er]] X λr w'=>r=.returned (.bool true)/\Below X.heap.size X w'):=hd' λX hX=>by have:=yls p e pb o X hX;unfold Ev.val Ev.cells at this;rwa [M,m.out]at this
 clear M;go_in;go_upto_region 1 with fail;generalize w.alloc (.cells #[e.k,e.c,e.ok,e.oa,e.on,e.at',e.n,e.er] 62)=W at*;obtain⟨E,hE,L⟩:=hidv w.heap.size;rw[<-L]at t1|-;have e0:W.cell? ⟨E,0,.none⟩=some (.int .i64 e.k):=iA t1 0;rw[m]at e0;have U:=iA t1;have h0:=F.h0;have lj:jb<W.heap.size:=F.lt;have lE:E<W.heap.size:=(jE t1);clear L;have V:=iA t1;have y:RpAt W pb o p:=G.out▸(F.row.pt i hi H.out);go_upto_region 5 with(first|(go_at_call 138;refine(O _ y).mono ?_;rintro r I ⟨rfl,S⟩));have C:=F.below S;have R:=j.trans (S.mono j.size);have q:RrP I pb J.ps:=C.row;have b5:pb<I.heap.size:=q.lt;have D:RpAt I pb o p:=G.out▸(q.pt i hi H.out);have p2:=D.c2;have pf:=D.fr;have z:RrP I pb (J.ps.set i p):=by rw[<-H,List.set_getElem_self];exact q
 have T:=RrP.put (q':={p with asks:=false}) hi 2 (.bool false) (Only.refl (atR pb) I) z rfl (by omega);rw[<-G]at T;have hL:GC B w (I.setCell ⟨pb,o+2,.none⟩ (.bool false)) jb s pb sl {J with l:=J.l,ps:=J.ps.set i {p with asks:=false}}:=⟨⟨sl,C.setP (by rw[List.length_set]) T.2 T.1,λk e=>.inl e⟩,(Only.of_below R).trans T.1 λk _ e=>.inr (.inl e)⟩;clear q C D T z y c0 c1 c2 c3 c4 c5 c6 c7 c8 c9 Y e0 V U h0 t1 j F;go_wp2;go_ret;exact⟨rfl,hL⟩
theorem ymw{B:Nat}{w:World}{jb s pb:Nat}{sl:Value}{J:Jd}(h:JrA B w jb s pb sl J)(e:Ev){i:Nat}{p v:Pt}{l':List Bk}(hi:i<J.ps.length)(b8:J.ps.length<=100)(hc:e.c=(i:Int))(Z:J.ps[i]=p)(T:Fine J.W J.l p e l' v):
  Calls Tryz.prog 73 #[some jb,e.val] w λr w'=>r=.returned (.int .i64 0)/\GC B w w' jb s pb sl {J with l:=l',ps:=J.ps.set i v}:=by
 obtain⟨ek,ec,C,G,en,S,z,er⟩:=e;have R:=T.kinds;dsimp only at hc R;subst hc;unfold Ev.val Ev.cells;dsimp only;have O:=(Below.refl w.heap.size w).alloc lr (.cells #[ek,.int .i64 (i:Int),C,G,en,S,z,er] 62);have t1:=jA w (.cells #[ek,.int .i64 (i:Int),C,G,en,S,z,er] 62);have q:=h.below O;obtain⟨n,hn,b5⟩:=hidv J.ps.length;have bk:(i:Int)<(n:Int):=by omega
 have bi:(0:Int)<=(i:Int):=by omega
 have b7:¬(i:Int)>=(n:Int):=by omega
 have bj:¬(i:Int)<0:=by omega
 have b6:n<=100:=by omega
 clear b5;obtain⟨E,hE,b0⟩:=hidv w.heap.size;replace hi:=hd' hi;replace Z:=hd' Z;go_in;go_upto_region 1 with fail;generalize w.alloc (.cells #[ek,.int .i64 (i:Int),C,G,en,S,z,er] 62)=W at*;rw[<-b0]at t1|-;clear b0;have hK:Hid (∀X,jW W X->JrA B X jb s pb sl J/\X.heap[E]?=some (.cells #[ek,.int .i64 (i:Int),C,G,en,S,z,er] 62)/\X.cell? ⟨jb,1,.none⟩=some (.slice (some ⟨pb,0,.none⟩) n n)):=hd' λX hX=>⟨q.below hX,(hX.block _ (jE t1)).trans t1,by rw[hn];exact(q.below hX).h1⟩;clear q t1;obtain⟨q,t1,h1⟩:=hK W br;have b3:=iA t1;go_quiet (fail);have Y:Below W.heap.size W (W.drewN nq):=below_drewN br nq;generalize W.drewN nq=V at*;clear b3 h1 t1 q;obtain⟨q,t1,h1⟩:=hK V Y;have b4:=iA t1;go_upto_region 3 with fail;go_quiet (fail);have H:Below W.heap.size W (V.drewN nq):=below_drewN Y nq;generalize V.drewN nq=U at*;clear b4 h1 t1 q;obtain⟨q,t1,_⟩:=hK U H;have b1:Below w.heap.size w U:=O.trans (H.mono O.size);clear Y H hK O;have j:=q.row.pt i hi Z.out;have bb:=iA t1;go_upto_region 6 with fail;have m:Hid (∀W3 v,RrP W3 pb (J.ps.set i v)->Only (atR pb) U W3->GC B w W3 jb s pb sl {J with l:=J.l,ps:=J.ps.set i v}):=hd' λW3 v hr b2=>⟨⟨sl,q.setP (by rw[List.length_set]) hr b2,λk e=>.inl e⟩,(Only.of_below b1).trans b2 λk _ e=>.inr (.inl e)⟩;have o:RrP U pb (J.ps.set i p):=by rw[<-Z,List.set_getElem_self];exact q.row
 have lp:pb<U.heap.size:=q.row.lt;have y:Hid (∀w' JR,GC B U w' jb s pb sl JR->GC B w w' jb s pb sl JR):=hd' λw' JR I=>GC.lower b1 I;rcases R with⟨rfl,hw,rfl,rfl⟩|⟨rfl,I,ht,rfl,rfl⟩|⟨rfl,I,F,bm,bn,rfl,rfl⟩|⟨rfl,I,F,R⟩|⟨rfl,I,F,R⟩|⟨rfl,I,F,R,rfl,rfl⟩
 .have c0:=j.c0;have c1:=j.c1;have pf:=j.fr;rw[hw]at c0;have L:=RrP.put (q':={p with was:=true}) hi 0 (.bool true) (Only.refl (atR pb) U) o rfl (by omega);have M:=RrP.put (q':={p with was:=true,lives:=true}) hi 1 (.bool true) L.1 L.2 rfl (by omega);have D:=hd' (m _ _ M.2 M.1);rw[Nat.add_zero]at D;clear L M o m y q j t1 T;go_wp2;go_returns;exact⟨rfl,D.out⟩
 .have c1:=j.c1;have c2:=j.c2;have c3:=j.c3;have pf:=j.fr;rw[I]at c1;have L:=RrP.put (q':={p with lives:=false}) hi 1 (.bool false) (Only.refl (atR pb) U) o rfl (by omega);have M:=RrP.put (q':={p with lives:=false,asks:=false}) hi 2 (.bool false) L.1 L.2 rfl (by omega);have D:=hd' (m _ _ M.2 M.1);clear L M o m y q j t1 T;rcases jB p.asks with F|F
  .rw[ht F]at c3;rw[F]at c2;clear ht;go_wp2;go_returns;exact⟨rfl,D.out⟩
  rw[F]at c2;clear ht;go_wp2;go_returns;exact⟨rfl,D.out⟩
 .obtain⟨_,c0,c1,c2,c3,c4,c5,c6,c7,c8,c9,pf⟩:=id j;rw[I]at c1;rw[F]at c2;have bc:=iA t1;have b9:¬C<1:=by omega
  have ba:¬ 4<C:=by omega
  have L:=RrP.put (q':={p with was:=true}) hi 0 (.bool true) (Only.refl (atR pb) U) o rfl (by omega);have M:=RrP.put (q':=⟨true,true,p.asks,p.k,p.a,p.n,p.took,p.gave,p.at',p.ab⟩) hi 1 (.bool true) L.1 L.2 rfl (by omega);have z2:=RrP.put (q':=⟨true,true,true,p.k,p.a,p.n,p.took,p.gave,p.at',p.ab⟩) hi 2 (.bool true) M.1 M.2 rfl (by omega);have z3:=RrP.put (q':=⟨true,true,true,p.k,p.a,p.n,false,p.gave,p.at',p.ab⟩) hi 3 (.bool false) z2.1 z2.2 rfl (by omega);have z4:=RrP.put (q':=⟨true,true,true,p.k,p.a,p.n,false,false,p.at',p.ab⟩) hi 4 (.bool false) z3.1 z3.2 rfl (by omega);have z5:=RrP.put (q':=⟨true,true,true,p.k,p.a,p.n,false,false,p.at',false⟩) hi 5 (.bool false) z4.1 z4.2 rfl (by omega);have z6:=RrP.put (q':=⟨true,true,true,C,p.a,p.n,false,false,p.at',false⟩) hi 6 (.int .i64 C) z5.1 z5.2 rfl (by omega);have z7:=RrP.put (q':=⟨true,true,true,C,G,p.n,false,false,p.at',false⟩) hi 7 (.int .i64 G) z6.1 z6.2 rfl (by omega);have z8:=RrP.put (q':=⟨true,true,true,C,G,en,false,false,p.at',false⟩) hi 8 (.int .i64 en) z7.1 z7.2 rfl (by omega);have z9:=RrP.put (q':=⟨true,true,true,C,G,en,false,false,0,false⟩) hi 9 (.int .i64 0) z8.1 z8.2 rfl (by omega);have D:=hd' (m _ _ z9.2 z9.1);rw[Nat.add_zero]at D;clear L M z2 z3 z4 z5 z6 z7 z8 z9 o m y q j t1 T;go_wp2;go_returns;exact⟨rfl,D.out⟩
 .have c1:=j.c1;have c2:=j.c2;rw[I]at c1;rw[F]at c2;obtain⟨k1,k2,k3,k4,k5,rfl,rfl⟩:=R;have hd:=yn2 q ⟨3,(i:Int),C,G,en,S,z,er⟩ i (i*10) p hi Z rfl ⟨rfl,k1,k2,k3,k4,k5⟩;unfold Ev.val Ev.cells at hd;dsimp only at hd;replace hd:=hd' hd;clear k1 k2 k3 k4 k5;have bf:=iA t1;clear o m q j t1 T;go_wp2_with (first|(go_at_call 110;(with_reducible refine hd.out.mono ?_);rintro r w2 ⟨rfl,D⟩));go_returns;exact⟨rfl,y _ _ D⟩
 .have c1:=j.c1;have c2:=j.c2;rw[I]at c1;rw[F]at c2;obtain⟨k1,k2,k3,k4,rfl,rfl⟩:=R;have hd:=ynl q ⟨4,(i:Int),C,G,en,S,z,er⟩ i (i*10) p hi Z rfl ⟨rfl,k1,k2,k3,k4⟩;unfold Ev.val Ev.cells at hd;dsimp only at hd;replace hd:=hd' hd;clear k1 k2 k3 k4;have bg:=iA t1;clear o m q j t1 T;go_wp2_with (first|(go_at_call 110;(with_reducible refine hd.out.mono ?_);rintro r w2 ⟨rfl,D⟩));go_returns;exact⟨rfl,y _ _ D⟩
 have c1:=j.c1;have c2:=j.c2;rw[I]at c1;rw[F]at c2;have hd:=ynb q ⟨5,(i:Int),C,G,en,S,z,er⟩ i (i*10) p hi Z rfl ⟨rfl,R⟩;unfold Ev.val Ev.cells at hd;dsimp only at hd;replace hd:=hd' hd;have bh:=iA t1;clear o m q j t1 T;go_wp2_with (first|(go_at_call 110;(with_reducible refine hd.out.mono ?_);rintro r w2 ⟨rfl,D⟩));go_returns;exact⟨rfl,y _ _ D⟩
def mapR (f:Pt->Pt) (i:Nat) (ps:List Pt):List Pt:=(ps.take i).map f ++ ps.drop i
theorem vO(f:Pt->Pt)(i:Nat)(ps:List Pt):(mapR f i ps).length=ps.length:=by
 unfold mapR;rw[List.length_append,List.length_map,List.length_take,List.length_drop];omega
theorem yoc(f:Pt->Pt)(ps:List Pt):mapR f 0 ps=ps:=by simp[mapR]
theorem ypk(f:Pt->Pt)(ps:List Pt):mapR f ps.length ps=ps.map f:=by simp[mapR]
theorem yox(f:Pt->Pt)(i:Nat)(ps:List Pt)(h:i<ps.length):(mapR f i ps)[i]'(by rw[vO];exact h)=ps[i]:=by
 unfold mapR;have j:((ps.take i).map f).length=i:=by rw[List.length_map,List.length_take];omega
 rw[List.getElem_append_right (by omega),List.getElem_drop];congr 1;omega
theorem ynu(f:Pt->Pt)(i:Nat)(ps:List Pt)(h:i<ps.length):mapR f (i+1) ps=(mapR f i ps).set i (f ps[i]):=by
 unfold mapR;have j:((ps.take i).map f).length=i:=by rw[List.length_map,List.length_take];omega
 rw[List.set_append_right _ _ (by omega),j,Nat.sub_self];have h1:ps.drop i=ps[i]::ps.drop (i+1):=(List.getElem_cons_drop h).symm;rw[h1,List.set_cons_zero];have h2:ps.take (i+1)=ps.take i++[ps[i]]:=List.take_succ_eq_append_getElem h;rw[h2,List.map_append,List.append_assoc];rfl
def Tw2 (w:World) (N:Nat) (a b:Int):Prop:=w.heap[N]?=some (.cells #[a,b] 64 (0,0))
section

variable {w w':World}{N:Nat}{a b:Int}

theorem Tw2.below(h:Tw2 w N a b)(hb:Below w.heap.size w w'):Tw2 w' N a b:=(hb.block N (jE h)).trans h
end

theorem yn5{B:Nat}{w:World}{jb s pb:Nat}{sl:Value}{J:Jd}(h:JrA B w jb s pb sl J)(e:Ev)(hb:NH J e=true)(hm:0<=J.m/\J.m<=1000000000)(hn:J.ps.length<=100):
  Calls Tryz.prog 33 #[some jb,e.val] w λr w'=>r=.returned (.bool true)/\GC B w w' jb s pb sl (DA J e):=by
 obtain⟨T,bi⟩:=(dJ J e).1 hb;rw[FL hb];replace T:=hd' T;obtain⟨ix,p0,v0,q,bk,bj,bu,hF,bq,b1⟩:=yqp bi;rw[bq,b1];clear bq b1 bi hb;have bg:=(Below.refl w.heap.size w).alloc lr (.cells #[e.k,e.c,e.ok,e.oa,e.on,e.at',e.n,e.er] 62);have t1:=jA w (.cells #[e.k,e.c,e.ok,e.oa,e.on,e.at',e.n,e.er] 62);have hJ:=h.below bg;obtain⟨E,hE,bc⟩:=hidv w.heap.size;have R:=ymw hJ e bk hn bj bu hF;have c9:(J.ps.set ix v0).length=J.ps.length:=List.length_set;generalize J.ps.set ix v0=j at*;clear hF bj bu bk;unfold Ev.val Ev.cells at R|-;have h4:=hJ.h4;rw[T]at h4;replace R:=hd' R;go_in;go_upto_region 1 with fail;generalize w.alloc (.cells #[e.k,e.c,e.ok,e.oa,e.on,e.at',e.n,e.er] 62)=W at*;rw[<-bc]at t1|-;have bv:=iA t1;clear bc;go_upto_region 5 with(first|(go_at_call 73;(with_reducible refine R.out.mono ?_);rintro r w2 ⟨rfl,hL⟩));obtain⟨⟨y,bf,bp⟩,bz⟩:=hL;clear hJ t1 bv h4 R;obtain⟨V,rfl⟩:∃V:World,V=w2:=⟨_,rfl⟩;have b2:JrA B V jb s pb y {J with l:=q,ps:=j}:=bf;have g1:V.cell? ⟨jb,1,.none⟩=some (rvV pb j.length):=b2.h1;obtain⟨n,b7,b0⟩:=hidv j.length;have c8:n<=100:=by omega
 rw[<-b0]at g1;unfold rvV at g1;clear b0 c9 bf;have U:Hid (∀wr,JrA B wr jb s pb y {J with l:=q,ps:=j.map (abP q),m:=J.m+1}->Only (gH jb s pb y) V wr->GC B w wr jb s pb sl {J with l:=q,ps:=j.map (abP q),m:=J.m+1}):=hd' λwr C ho=>by
  refine GC.lower bg ⟨⟨y,C,bp⟩,bz.trans ho λk hk e=>?_⟩;rcases e with e|e|e|e
  .exact .inl e
  .exact .inr (.inl e)
  .exact .inr (.inr (.inl e))
  rcases bp k e with h1|h1
  .exact .inr (.inr (.inr h1))
  omega
 go_wp2_with fail;go_loopw [6] (λvi wr=>∃i:Nat,i<=n/\vi=.int .i64 i/\JrA B wr jb s pb y {J with l:=q,ps:=mapR (abP q) i j}/\Only (gH jb s pb y) V wr) (λvi _=>n-(intOf vi).toNat);case atStart=>exact⟨0,Nat.zero_le _,rfl,by rw[yoc];exact b2,Only.refl _ _⟩
 case round=>
  clear g1 b2;obtain⟨i,hi,rfl,C,ho⟩:=hrel;obtain⟨Y,rfl⟩:∃V:World,V=wr:=⟨_,rfl⟩;have y1:Y.cell? ⟨jb,1,.none⟩=some (.slice (some ⟨pb,0,.none⟩) n n):=by have:=C.h1;unfold rvV at this;rw[show ({J with l:=q,ps:=mapR (abP q) i j}:Jd).ps.length=j.length from vO _ _ _,<- b7]at this;exact this
  by_cases c6:i<n
  .have ca:(i:Int)<(n:Int):=by omega
   have cc:(0:Int)<=(i:Int):=by omega
   have cf:IntKind.i64.wrap ((i:Int)+1)=(i:Int)+1:=IntWalk.i64_in _ ⟨by omega,by omega⟩;have b5:i<j.length:=by have:=b7.out;omega
   have M:i<(mapR (abP q) i j).length:=by rw[vO];exact b5
   have I:RrP Y pb (mapR (abP q) i j):=C.row;obtain⟨p,hp⟩:∃p,j[i]=p:=⟨_,rfl⟩;have D:=yox (abP q) i j b5;rw[hp]at D;have b9:=I.pt i M D;have y0:=C.h0;have O:=ynu (abP q) i j b5;rw[hp]at O;have L:=λX (hX:Below Y.heap.size Y X)=>ES (C.below hX).model p.a;obtain⟨bx,bn,b3⟩:=RR q p.a;dsimp only at L b3;rw[b3]at L;replace L:=hd' L;have y4:=b9.c7;have lj:jb<Y.heap.size:=C.lt;have lp:pb<Y.heap.size:=b9.lt;replace D:=hd' D;replace O:=hd' O;replace hp:=hd' hp;clear b3;go_upto_region 8 with fail;go_cut [7,8] (λvx vo wx=>(∃N:Nat,vx=.pointer (some ⟨N,0,.none⟩))/\vo=.bool (WA p.a q)/\Below Y.heap.size Y wx);case first=>
    have hK:Hid (∀X,jW Y X->X.cell? ⟨jb,0,.none⟩=some (.pointer (some ⟨s,0,.none⟩))/\X.cell? ⟨jb,1,.none⟩=some (.slice (some ⟨pb,0,.none⟩) n n)/\X.cell? ⟨pb,i*10+7,.none⟩=some (.int .i64 p.a)):=hd' λX hb=>⟨kA hb _ _ _ y0,kA hb _ _ _ y1,kA hb _ _ _ y4⟩
    go_region_held3 (λX=>X.cell? ⟨jb,0,.none⟩=some (.pointer (some ⟨s,0,.none⟩))/\X.cell? ⟨jb,1,.none⟩=some (.slice (some ⟨pb,0,.none⟩) n n)/\X.cell? ⟨pb,i*10+7,.none⟩=some (.int .i64 p.a))
     (first|exact hK _ (by go_grown))
     (first|(go_at_call 27;(with_reducible refine(L _ (by go_grown)).mono ?_);rintro r w4 ⟨rfl,bh⟩;have bw:=qA (w:=Y) (by go_grown) bh;have cb:=bw.size;try (have hz:=Tw2.below (N:=Y.heap.size) (a:=0) (b:=0) (jA Y.drew (.cells #[.int .i64 0,.int .i64 0] 64)) bh;have z0:=iA hz 0;have z1:=iA hz 1;have zF:=KA hz)))
    all_goals (go_wp2_with fail;go_meet)
    all_goals exact⟨⟨_,rfl⟩,rfl,by go_grown⟩
   case rest=>
    obtain⟨⟨N,rfl⟩,rfl,S⟩:=hcut;obtain⟨Z,rfl⟩:∃V:World,V=wc:=⟨_,rfl⟩;have b6:=C.below S;have b8:Only (gH jb s pb y) V Z:=ho.trans (Only.of_below (F:=λ_=>False) S) λ_ _ e=>e.elim;have ba:RrP Z pb (mapR (abP q) i j):=I.of_block (S.block _ I.lt);have H:RpAt Z pb (i*10) p:=ba.pt i M D.out;have y1:=kA S _ _ _ y1;have y2:=H.c2;have y5:=H.c5;have yf:=H.fr;have o:abP q p=p->∃G:Nat,G<=n/\Value.int .i64 ((i:Int)+1)=.int .i64 G/\JrA B Z jb s pb y {J with l:=q,ps:=mapR (abP q) G j}/\Only (gH jb s pb y) V Z:=λe=>by
     refine⟨i+1,by omega,by go_num,?_,b8⟩;have:mapR (abP q) (i+1) j=mapR (abP q) i j:=by rw[O,e,<- D,List.set_getElem_self]
     rw[this];exact b6
    have z:abP q p={p with ab:=true}->∃G:Nat,G<=n/\Value.int .i64 ((i:Int)+1)=.int .i64 G/\JrA B (Z.setCell ⟨pb,i*10+5,.none⟩ (.bool true)) jb s pb y {J with l:=q,ps:=mapR (abP q) G j}/\Only (gH jb s pb y) V (Z.setCell ⟨pb,i*10+5,.none⟩ (.bool true)):=λe=>by
     have bb:RrP Z pb ((mapR (abP q) i j).set i p):=by rw[<-D,List.set_getElem_self];exact ba
     have z0:=RrP.put (q':={p with ab:=true}) M 5 (.bool true) (Only.refl (atR pb) Z) bb rfl (by omega);refine⟨i+1,by omega,by go_num,?_,b8.trans z0.1 λk _ e=>.inr (.inl e)⟩;rw[O,e];exact b6.setP (qs:=(mapR (abP q) i j).set i {p with ab:=true}) (by rw[List.length_set]) z0.2 z0.1
    replace o:=hd' o;replace z:=hd' z;clear b6 b8 ba H I b9 C ho L y4 y0;rcases jB (WA p.a q) with b4|b4
    .have hh:=hd' (o (by unfold abP;rw[jN (by rw[b4];simp)]));clear o z;go_wp2;all_goals exact⟨hh.out,by simp[intOf];omega⟩
    rcases jB p.asks with has|has
    .have hh:=hd' (z (by unfold abP;rw[jP ⟨b4,has⟩]));clear o z;go_wp2;exact⟨hh.out,by simp[intOf];omega⟩
    have hh:=hd' (o (by unfold abP;rw[jN (by rw[has];simp)]));clear o z;go_wp2;exact⟨hh.out,by simp[intOf];omega⟩
  have c4:i=n:=by omega
  subst c4;rw[b7,ypk]at C;obtain⟨bm,bs⟩:=C.setN (J.m+1);have hL:=hd' (U _ bm (ho.trans bs λk _ e=>.inl e));have y2:=C.h2;have y4:=C.h4;have yf:=C.fr;dsimp only at y2 y4;rw[T]at y4;have wm:=wrp (J.m+1);have cd:¬(i:Int)<(i:Int):=by omega
  have lj:jb<Y.heap.size:=C.lt;clear C ho U bm bs c6;go_wp2;go_ret;exact⟨rfl,hL.out⟩
def Ev.fit (e:Ev):Prop:=(-9223372036854775808<=e.at'/\e.at'<=9223372036854775807)/\(-9223372036854775808<=e.n/\e.n<=9223372036854775807)
theorem GS(W:Int)(l:List Bk)(ps:List Pt)(e:Ev):(whyJ W l ps e).ps.length=ps.length:=by
 unfold whyJ;repeat' split
 all_goals simp
theorem yo6(J:Jd)(e:Ev):(DA J e).ps.length=J.ps.length:=by
 unfold DA;split
 .rfl
 split
 .exact GS _ _ _ _
 rw[List.length_map];exact GS _ _ _ _
theorem yp3(J:Jd)(es:List Ev):(runJ J es).ps.length=J.ps.length:=by
 induction es generalizing J with
 |nil=>rfl
 |cons e es f=>rw[rJ,f,yo6]
theorem yra(J:Jd)(e:Ev):J.m<=(DA J e).m/\(DA J e).m<=J.m+1:=by
 unfold DA;split
 .omega
 split
 .simp;omega
 simp;omega
theorem yr8(J:Jd)(es:List Ev):J.m<=(runJ J es).m/\(runJ J es).m<=J.m+es.length:=by
 induction es generalizing J with
 |nil=>simp[runJ];|cons e es f=>have h1:=yra J e;have h2:=f (DA J e);rw[rJ,List.length_cons];omega
theorem yp0(p c m:Int):(newJ p c m).ps.length<=12/\(newJ p c m).m=0:=by
 unfold newJ;split
 .rename_i h;have:=JA.1 h;simp;omega
 simp
theorem ymv(p c m:Int)(es:List Ev)(h:es.length<=100000000):(0<=(runJ (newJ p c m) es).m/\(runJ (newJ p c m) es).m<=1000000000)/\(runJ (newJ p c m) es).ps.length<=100:=by
 have h1:=yp0 p c m;have h2:=yr8 (newJ p c m) es;rw[yp3];omega
theorem ynr{J:Jd}{es:List Ev}(h:(runJ J es).why=0)(i:Nat)(hi:i<es.length):NH (runJ J (es.take i)) es[i]=true:=by
 have h1:(DA (runJ J (es.take i)) es[i]).why=0:=by rw[<-List.take_append_drop (i+1) es,bH]at h;have h2:=qG h;rwa [List.take_succ_eq_append_getElem hi,GR]at h2
 have h0:(runJ J (es.take i)).why=0:=qG (es:=[es[i]]) h1;exact(dJ _ _).2 ⟨h0,KG h0 h1⟩
theorem yq4{J:Jd}{es:List Ev}(h:(runJ J es).why=0):(runJ J es).at'=J.at':=by
 induction es generalizing J with
 |nil=>rfl;|cons e es f=>have h1:(DA J e).why=0:=qG (es:=es) h;have h0:J.why=0:=qG (es:=[e]) h1;rw[rJ,f h,FL ((dJ _ _).2 ⟨h0,KG h0 h1⟩)]
theorem yrb(p c m:Int):(newJ p c m).at'= -1:=by unfold newJ;split<;>rfl
end Go.Proofs.YtkilokkopbajkaaGreat
