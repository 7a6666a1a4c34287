
import Derived.Test.YtkilokkopbajkaaGreatBw32

set_option linter.all false
set_option maxHeartbeats 4000000
set_option maxRecDepth 100000
namespace Go.Proofs.YtkilokkopbajkaaGreat

open RowKit

attribute [local go_sem ↓] wp_at_zero wp_at_succ

section

def Acc.cells (a:Acc):Array Value:=#[a.c,a.k,a.a,.int .u64 a.was,.int .u64 a.put,a.ok]
def qC (s:Sh) (p lb n:Nat) (tv sv:Value):Array Value:=#[s.p,s.c,s.m,some p,.slice (some ⟨lb,0,.none⟩) n n,tv,sv]
attribute [local go_sem] qC

def ptrK (o:Option Kl) (q:Nat):Value:=match o with
 |none=>.pointer none
 |some _=>.pointer (some ⟨q,0,.none⟩)
structure Wx where
 p:Nat
 b:Nat
 lb:Nat
 tv:Value
 sv:Value
 ps:List Value
 qs:Nat->Nat
 ow:Nat->Nat
 Fc:Nat->Nat->Prop
structure WdP (B:Nat) (F:Nat->Prop) (W:World) (g:Nat) (s:Sh) (d:Wd) (x:Wx):Prop where
 top:aA W g (qC s x.p x.lb d.l.length x.tv x.sv) 105
 wds:oA W x.p x.b d.m
 lst:aA W x.lb x.ps.toArray 57
 pl:x.ps.length=d.l.length
 pe:∀c,c<d.l.length->x.ps[c]?=some (ptrK (d.l.getD c none) (x.qs c))
 cl:∀c k,d.l.getD c none=some k->KlO (x.Fc c) W (x.qs c) s k
 tr:W.ownsRow B 62 8 x.tv d.tr.length (d.tr.flatMap λe=>e.cells.toList)
 lg:W.ownsRow B 155 6 x.sv d.lg.length (d.lg.flatMap λa=>a.cells.toList)
 lt:∀i,F i->B<=i/\i<W.heap.size
 fg:F g/\x.ow g=0
 fp:F x.p/\x.ow x.p=1
 fb:F x.b/\x.ow x.b=2
 fl:F x.lb/\x.ow x.lb=3
 ft:∀i,x.tv.ownBlock=some i->F i/\x.ow i=4
 fs:∀i,x.sv.ownBlock=some i->F i/\x.ow i=5
 fc:∀c i,x.Fc c i->F i/\x.ow i=c+6
section

variable {B:Nat}{F:Nat->Prop}{W W':World}{g:Nat}{s:Sh}{d:Wd}{x:Wx}

theorem WdP.ne(_h:WdP B F W g s d x){i j:Nat}{m n:Nat}(hi:x.ow i=m)(b:x.ow j=n)(f:m≠n):i≠j:=λe=>f (by rw[<-hi,<- b,e])
theorem WdP.only{G:Nat->Prop}(h:WdP B F W g s d x)(f:Only G W W')(b:∀i,F i->¬G i):WdP B F W' g s d x:=
 ⟨h.top.only f (b _ h.fg.1),h.wds.only f (b _ h.fp.1) (b _ h.fb.1),h.lst.only f (b _ h.fl.1),h.pl,h.pe,λc k j=>(h.cl c k j).only f (λi hi=>b i (h.fc c i hi).1),
  oC h.tr λi hi=>f.block i (h.tr.lt i hi).2 (b i (h.ft i hi).1),oC h.lg λi hi=>f.block i (h.lg.lt i hi).2 (b i (h.fs i hi).1),λi hi=>⟨(h.lt i hi).1,Nat.lt_of_lt_of_le (h.lt i hi).2 f.size⟩,
  h.fg,h.fp,h.fb,h.fl,h.ft,h.fs,h.fc⟩
theorem WdP.below(h:WdP B F W g s d x)(hb:Below W.heap.size W W'):WdP B F W' g s d x:=h.only (Only.of_below (F:=λ_=>False) hb) (λ_ _ e=>e)
theorem WdP.grows(h:WdP B F W g s d x)(f:B<=W.heap.size)(hb:Below W.heap.size W W'):WdP B (grow F W W') W' g s d x:=by
 have b:=h.below hb;refine⟨b.top,b.wds,b.lst,b.pl,b.pe,b.cl,b.tr,b.lg,λi hi=>?_,⟨.inl h.fg.1,h.fg.2⟩,⟨.inl h.fp.1,h.fp.2⟩,⟨.inl h.fb.1,h.fb.2⟩,⟨.inl h.fl.1,h.fl.2⟩,λi hi=>⟨.inl (h.ft i hi).1,(h.ft i hi).2⟩,λi hi=>⟨.inl (h.fs i hi).1,(h.fs i hi).2⟩,λc i hi=>⟨.inl (h.fc c i hi).1,(h.fc c i hi).2⟩⟩;rcases hi with hi|hi
 .exact b.lt i hi
 exact⟨by omega,hi.2⟩
end

def Wx.told (x:Wx) (tv:Value) (N:Nat):Wx:={x with tv:=tv,ow:=λi=>if N<=i then 4 else x.ow i}
theorem WdP.told{B:Nat}{F:Nat->Prop}{W W' W2:World}{g:Nat}{s:Sh}{d:Wd}{x:Wx}{v':Value}{es:List Ev}(h:WdP B F W g s d x)(J:B<=W.heap.size)(G:W.grownBy W' x.tv.ownBlock)(E:W'.ownsRow B 62 8 v' (d.tr.length+es.length) ((d.tr.flatMap λe=>e.cells.toList)++es.flatMap λe=>e.cells.toList))(j:v'.ownBlock=x.tv.ownBlock\/v'.ownBlock=some W.heap.size) (h2:W2=W'.setCell ⟨g,5,.none⟩ v'):
  WdP B (grow F W W2) W2 g s {d with tr:=d.tr++es} (x.told v' W.heap.size)/\Only F W W2:=by
 have D:W2.heap.size=W'.heap.size:=by rw[h2];simp[World.setCell]
 have I:∀i,x.tv.ownBlock=some i->F i:=λi hi=>(h.ft i hi).1;have y:Only (λi=>x.ow i=4/\F i) W W':=(Only.refl _ W).grown G λk o=>.inl ⟨(h.ft k o).2,(h.ft k o).1⟩;have f:Only (λi=>(x.ow i=4/\F i)\/i=g) W W2:=by rw[h2];exact Only.setCell (Only.weak y λk o=>.inl o) (p:=⟨g,5,.none⟩) (.inl (.inr rfl)) v'
 have r:∀i,F i->¬W.heap.size<=i:=λi hi=>by have:=(h.lt i hi).2;omega
 have b:∀i,F i->(x.told v' W.heap.size).ow i=x.ow i:=λi hi=>jN (r i hi);have C:∀i,x.ow i≠4->i≠g->¬((x.ow i=4/\F i)\/i=g):=λi h1 h2 e=>e.elim (λe=>h1 e.1) h2;have q:∀i,x.ow i≠0->i≠g:=λi hi e=>hi (e▸h.fg.2);have own:∀i m,x.ow i=m->m≠4->m≠0->¬((x.ow i=4/\F i)\/i=g):=λi m L h4 h0=>C i (by omega) (q i (by omega))
 refine⟨⟨?_,h.wds.only f (own _ 1 h.fp.2 (by decide) (by decide)) (own _ 2 h.fb.2 (by decide) (by decide)),h.lst.only f (own _ 3 h.fl.2 (by decide) (by decide)),h.pl,h.pe,λc k o=>(h.cl c k o).only f (λi hi=>own i (c+6) (h.fc c i hi).2 (by omega) (by omega)),
  ?_,oC h.lg λi hi=>f.block i (h.lg.lt i hi).2 (own i 5 (h.fs i hi).2 (by decide) (by decide)),λi hi=>?_,⟨.inl h.fg.1,(b _ h.fg.1).trans h.fg.2⟩,⟨.inl h.fp.1,(b _ h.fp.1).trans h.fp.2⟩,⟨.inl h.fb.1,(b _ h.fb.1).trans h.fb.2⟩,⟨.inl h.fl.1,(b _ h.fl.1).trans h.fl.2⟩,λi hi=>?_,
  λi hi=>⟨.inl (h.fs i hi).1,(b _ (h.fs i hi).1).trans (h.fs i hi).2⟩,λc i hi=>⟨.inl (h.fc c i hi).1,(b _ (h.fc c i hi).1).trans (h.fc c i hi).2⟩⟩,Only.weak f λk o=>o.elim (λe=>e.2) (λe=>e▸h.fg.1)⟩
 .have H:aA W' g (qC s x.p x.lb d.l.length x.tv x.sv) 105:=h.top.only y (λe=>by have:=h.fg.2;omega);rw[h2];exact H.set 5 v'
 .rw[h2];refine oC (w:=W') ?_ λi hi=>Below.heap_setCell _ ⟨g,5,.none⟩ _ i ?_
  .simpa[Wx.told] using E
  rcases j with j|j
  .rw[show (x.told v' W.heap.size).tv=v' from rfl,j]at hi;have:=(h.ft i hi).2;exact q i (by omega)
  rw[show (x.told v' W.heap.size).tv=v' from rfl,j]at hi;injection hi with hi;have:=(h.lt _ h.fg.1).2;show i≠g;omega
 .rcases hi with hi|hi
  .exact⟨(h.lt i hi).1,by have:=(h.lt i hi).2;have:=f.size;omega⟩
  exact⟨by omega,hi.2⟩
 rw[show (x.told v' W.heap.size).tv=v' from rfl]at hi;rcases j with j|j
 .rw[j]at hi;exact⟨.inl (h.ft i hi).1,(b _ (h.ft i hi).1).trans (h.ft i hi).2⟩
 have z:=E.lt i hi;rw[j]at hi;injection hi with hi;subst hi;exact⟨.inr ⟨Nat.le_refl _,by rw[D];exact z.2⟩,jP lr⟩
theorem z04{B:Nat}{F:Nat->Prop}{W:World}{g:Nat}{s:Sh}{d:Wd}{x:Wx}(h:WdP B F W g s d x)(J:B<=W.heap.size)(es:List Ev)(v:Value)(M:RdE W v es)(hl:d.tr.length+es.length<=100000000):
  Calls Tryz.prog 48 #[some g,v] W λe w'=>e=.returned (.tuple #[])/\∃O,WdP B (grow F W w') w' g s {d with tr:=d.tr++es} O/\Only F W w'/\O.qs=x.qs:=by
 have Z:=ce x.tv (h.top.cell 5);have lg:g<W.heap.size:=h.top.lt;have fg:=KA h.top;have j:=h.tr;obtain⟨Y,E,G,H,I⟩:=info_parts JL;have o:∀u∈es.flatMap (λe=>e.cells.toList),u.oneCell'=true:=λu hu=>by obtain⟨e,_,L⟩:=List.mem_flatMap.1 hu;simp only[Ev.cells,List.mem_cons,List.not_mem_nil,or_false]at L;rcases L with rfl|rfl|rfl|rfl|rfl|rfl|rfl|rfl<;>rfl
 have b:=λW' W2 v'=>h.told (W':=W') (W2:=W2) (v':=v') (es:=es) J;obtain⟨z,C,p,h0⟩:=RdS.lD j;obtain⟨R,S,T,h1⟩:=id M;clear h0 h1;subst T;rw[p]at j Z;have m:∀W':World,W.grownBy W' x.tv.ownBlock->W'.heap[g]?=W.heap[g]?:=λW' X=>X.block g lg (λe=>by have:=(h.ft g e.symm).2;have:=h.fg.2;omega);rw[p]at b m;replace b:=hd' b;replace m:=hd' m;replace p:=hd' p;have r:=hd' h.top;clear h;go_in;go_wp2_with (first|(refine nH rfl (.tmp 8) (.tmp 9) 59 rfl B 62 Y _ 8 64 Tryz.underlying59 E G H I rfl (by omega) _ d.tr.length _ rfl j _ es.length _ rfl M o (by simp only[maxLen];omega) (by omega) J ?_;intro v7 y l i q;obtain⟨a7,c7,U,_⟩:=RdS.lD l;subst U;have D:aA y g _ _:=(m y i).trans r.out;have V:=KA D;have l7:g<y.heap.size:=D.lt;have y5:y.cell? ⟨g,5,.none⟩=some (.slice z d.tr.length C):=(D.cell 5).trans (congrArg some p.out)));have N:=b y _ _ i l q rfl;refine bodyPost_end (results_none rfl _ _ _) rfl ⟨rfl,_,N.1,N.2,rfl⟩
end

section

attribute [local go_sem] qC

section

variable {B:Nat}{F:Nat->Prop}{W W':World}{g:Nat}{s:Sh}{d:Wd}{x:Wx}

theorem WdP.put{j:Mem}(h:WdP B F W g s d x)(f:Only (λi=>i=x.p\/i=x.b) W W')(o:oA W' x.p x.b j):WdP B F W' g s {d with m:=j} x:=by
 have own:∀i n,x.ow i=n->n≠1->n≠2->¬(i=x.p\/i=x.b):=λi n hi h1 h2 e=>by
  rcases e with rfl|rfl
  .have:=h.fp.2;omega
  have:=h.fb.2;omega
 exact⟨h.top.only f (own _ 0 h.fg.2 (by decide) (by decide)),o,h.lst.only f (own _ 3 h.fl.2 (by decide) (by decide)),h.pl,h.pe,λc k l=>(h.cl c k l).only f (λi hi=>own i (c+6) (h.fc c i hi).2 (by omega) (by omega)),
  oC h.tr λi hi=>f.block i (h.tr.lt i hi).2 (own i 4 (h.ft i hi).2 (by decide) (by decide)),oC h.lg λi hi=>f.block i (h.lg.lt i hi).2 (own i 5 (h.fs i hi).2 (by decide) (by decide)),λi hi=>⟨(h.lt i hi).1,Nat.lt_of_lt_of_le (h.lt i hi).2 f.size⟩,
  h.fg,h.fp,h.fb,h.fl,h.ft,h.fs,h.fc⟩
def Wx.mine (x:Wx) (c N N':Nat):Wx:={x with ow:=λi=>if N<=i then c+6 else x.ow i,Fc:=λc' i=>x.Fc c' i\/(c'=c/\N<=i/\i<N')}
theorem DU{l:List (Option Kl)}{c i:Nat}{k:Kl}(hc:c<l.length):(l.set c (some k)).getD i none=if i=c then some k else l.getD i none:=by
 rw[MM _ _ _ _ hc];by_cases e:c=i
 .subst e;simp
 rw[jN e,jN (λh=>e h.symm)]
theorem WdP.stepped{c:Nat}{k r:Kl}{D:Mem}(h:WdP B F W g s d x)(H:B<=W.heap.size)(E:d.l.getD c none=some k)(hc:c<d.l.length)(z:KlO (grow (x.Fc c) W W') W' (x.qs c) s r) (G:oA W' x.p x.b D) (q:Only (λi=>x.Fc c i\/i=x.p\/i=x.b) W W'):
  WdP B (grow F W W') W' g s {d with m:=D,l:=d.l.set c (some r)} (x.mine c W.heap.size W'.heap.size)/\Only F W W':=by
 have own:∀i n,x.ow i=n->n≠1->n≠2->n≠c+6->¬(x.Fc c i\/i=x.p\/i=x.b):=λi n hi h1 h2 h3 e=>by
  rcases e with e|rfl|rfl
  .have:=(h.fc c i e).2;omega
  .have:=h.fp.2;omega
  have:=h.fb.2;omega
 have y:∀i,F i->¬W.heap.size<=i:=λi hi=>by have:=(h.lt i hi).2;omega
 have j:∀i,F i->(x.mine c W.heap.size W'.heap.size).ow i=x.ow i:=λi hi=>jN (y i hi)
 refine⟨⟨?_,G,h.lst.only q (own _ 3 h.fl.2 (by decide) (by decide) (by omega)),by simpa[Wx.mine] using h.pl,λc' o=>?_,λc' C f=>?_,
  oC h.tr λi hi=>q.block i (h.tr.lt i hi).2 (own i 4 (h.ft i hi).2 (by decide) (by decide) (by omega)),oC h.lg λi hi=>q.block i (h.lg.lt i hi).2 (own i 5 (h.fs i hi).2 (by decide) (by decide) (by omega)),λi hi=>?_,
  ⟨.inl h.fg.1,(j _ h.fg.1).trans h.fg.2⟩,⟨.inl h.fp.1,(j _ h.fp.1).trans h.fp.2⟩,⟨.inl h.fb.1,(j _ h.fb.1).trans h.fb.2⟩,⟨.inl h.fl.1,(j _ h.fl.1).trans h.fl.2⟩,λi hi=>⟨.inl (h.ft i hi).1,(j _ (h.ft i hi).1).trans (h.ft i hi).2⟩,
  λi hi=>⟨.inl (h.fs i hi).1,(j _ (h.fs i hi).1).trans (h.fs i hi).2⟩,λc' i hi=>?_⟩,Only.weak q λi hi=>?_⟩
 .have:=h.top.only q (own _ 0 h.fg.2 (by decide) (by decide) (by omega));show aA W' g (qC s x.p x.lb (d.l.set c (some r)).length x.tv x.sv) _;rw[List.length_set];exact this
 .have o:c'<(d.l.set c (some r)).length:=o;rw[List.length_set]at o;show x.ps[c']?=some (ptrK ((d.l.set c (some r)).getD c' none) (x.qs c'));rw[DU hc,h.pe c' o];split
  .rename_i e;subst e;rw[E];rfl
  rfl
 .have t:(d.l.set c (some r)).getD c' none=some C:=f;clear f;have f:=t;clear t;rw[DU hc]at f;show KlO (λi=>x.Fc c' i\/(c'=c/\W.heap.size<=i/\i<W'.heap.size)) W' (x.qs c') s C;split at f
  .rename_i e;subst e;injection f with f;subst f
   exact z.weak (λi hi=>hi.elim .inl λhi=>.inr ⟨rfl,hi⟩) (λi hi=>by
    rcases hi with hi|hi
    .have:=(h.lt i (h.fc _ i hi).1).2;have:=q.size;omega
    .exact hi.2.2)
  rename_i e;have h1:=(h.cl c' C f).only q (λi hi=>own i (c'+6) (h.fc c' i hi).2 (by omega) (by omega) (by omega))
  exact h1.weak (λi hi=>.inl hi) (λi hi=>by
   rcases hi with hi|hi
   .exact h1.lt i hi
   .exact absurd hi.1 e)
 .rcases hi with hi|hi
  .exact⟨(h.lt i hi).1,Nat.lt_of_lt_of_le (h.lt i hi).2 q.size⟩
  exact⟨by omega,hi.2⟩
 .rcases hi with hi|⟨rfl,hi⟩
  .exact⟨.inl (h.fc c' i hi).1,(j _ (h.fc c' i hi).1).trans (h.fc c' i hi).2⟩
  exact⟨.inr hi,jP hi.1⟩
 rcases hi with hi|rfl|rfl
 .exact(h.fc c i hi).1
 .exact h.fp.1
 exact h.fb.1
theorem WdP.cw{n:Nat}{c:Nat}{k:Kl}(h:WdP B F W g s d x)(j:d.l.getD c none=some k)(o:klOk s k)(f:Fits s d.m):CW B (x.Fc c) W (x.qs c) x.p x.b s k d.m:=
 ⟨h.cl c k j,h.wds,λe=>by have:=(h.fc c _ e).2;have:=h.fp.2;omega,λe=>by have:=(h.fc c _ e).2;have:=h.fb.2;omega,λi hi=>(h.lt i (h.fc c i hi).1).1,(h.lt _ h.fp.1).1,(h.lt _ h.fb.1).1,o,f⟩
theorem WdP.place{c q:Nat}{o:Option Kl}{Fq:Nat->Prop}(h:WdP B F W g s d x)(L:B<=W.heap.size)(hc:c<d.l.length)(hb:Below W.heap.size W W')(J:∀k,o=some k->KlO Fq W' q s k)(z:∀i,Fq i->W.heap.size<=i/\i<W'.heap.size){W2:World}(h2:W2=W'.setCell ⟨x.lb,c,.none⟩ (ptrK o q)):
  ∃I,WdP B (grow F W W2) W2 g s {d with l:=d.l.set c o} I/\Only F W W2/\I.p=x.p/\I.b=x.b:=by
 have H:W2.heap.size=W'.heap.size:=by rw[h2];simp[World.setCell]
 have hs:=hb.size;have t:Only (λi=>i=x.lb) W W2:=by rw[h2];exact(Only.of_below (F:=λi=>i=x.lb) hb).setCell (p:=⟨x.lb,c,.none⟩) (.inl rfl) _
 have own:∀i n,x.ow i=n->n≠3->¬(i=x.lb):=λi n hi h3 e=>by subst e;have:=h.fl.2;omega
 have f:∀i,F i->¬W.heap.size<=i:=λi hi=>by have:=(h.lt i hi).2;omega
 refine⟨{x with ps:=x.ps.set c (ptrK o q),qs:=λc'=>if c'=c then q else x.qs c',ow:=λi=>if W.heap.size<=i then c+6 else x.ow i,Fc:=λc' i=>if c'=c then Fq i else x.Fc c' i},
  ⟨?_,h.wds.only t (own _ 1 h.fp.2 (by decide)) (own _ 2 h.fb.2 (by decide)),?_,by simpa using h.pl,λc' r=>?_,λc' C j=>?_,
  oC h.tr λi hi=>t.block i (h.tr.lt i hi).2 (own i 4 (h.ft i hi).2 (by decide)),oC h.lg λi hi=>t.block i (h.lg.lt i hi).2 (own i 5 (h.fs i hi).2 (by decide)),λi hi=>?_,
  ⟨.inl h.fg.1,(jN (f _ h.fg.1)).trans h.fg.2⟩,⟨.inl h.fp.1,(jN (f _ h.fp.1)).trans h.fp.2⟩,⟨.inl h.fb.1,(jN (f _ h.fb.1)).trans h.fb.2⟩,⟨.inl h.fl.1,(jN (f _ h.fl.1)).trans h.fl.2⟩,λi hi=>⟨.inl (h.ft i hi).1,(jN (f _ (h.ft i hi).1)).trans (h.ft i hi).2⟩,
  λi hi=>⟨.inl (h.fs i hi).1,(jN (f _ (h.fs i hi).1)).trans (h.fs i hi).2⟩,λc' i hi=>?_⟩,Only.weak t λi hi=>by subst hi;exact h.fl.1,rfl,rfl⟩
 .have:=h.top.only t (own _ 0 h.fg.2 (by decide));show aA W2 g (qC s x.p x.lb (d.l.set c o).length x.tv x.sv) _;rw[List.length_set];exact this
 .have h3:=(h.lst.below hb).set c (ptrK o q);rw[<-h2]at h3;refine h3.cast ?_;simp
 .have r:c'<(d.l.set c o).length:=r;rw[List.length_set]at r;show (x.ps.set c (ptrK o q))[c']?=some (ptrK ((d.l.set c o).getD c' none) (if c'=c then q else x.qs c'));rw[MM _ _ _ _ hc,List.getElem?_set];by_cases e:c=c'
  .subst e;rw[jP rfl,jP (by rw[h.pl];exact hc),jP rfl,jP rfl]
  rw[jN e,jN e,jN (λh=>e h.symm)];exact h.pe c' r
 .have j:(d.l.set c o).getD c' none=some C:=j;rw[MM _ _ _ _ hc]at j;show KlO (λi=>if c'=c then Fq i else x.Fc c' i) W2 (if c'=c then q else x.qs c') s C;by_cases e:c=c'
  .subst e;rw[jP rfl]at j;rw[jP rfl];have h4:=J C j;have E:∀i,Fq i->i≠x.lb:=λi hi e=>by have:=(h.lt _ h.fl.1).2;have:=(z i hi).1;omega
   have y:KlO Fq W2 q s C:=by rw[h2];exact h4.only (G:=λi=>i=x.lb) ((Only.refl (λi=>i=x.lb) W').setCell (p:=⟨x.lb,c,.none⟩) (.inl rfl) _) E
   exact y.weak (λi hi=>by rw[jP rfl];exact hi) (λi hi=>by rw[jP rfl]at hi;exact y.lt i hi)
  rw[jN e]at j;rw[jN (λh=>e h.symm)];have y:=(h.cl c' C j).only t (λi hi=>own i (c'+6) (h.fc c' i hi).2 (by omega));exact y.weak (λi hi=>by rw[jN (λh=>e h.symm)];exact hi) (λi hi=>by rw[jN (λh=>e h.symm)]at hi;exact y.lt i hi)
 .rcases hi with hi|hi
  .exact⟨(h.lt i hi).1,by have:=(h.lt i hi).2;omega⟩
  exact⟨by omega,hi.2⟩
 have m:if c'=c then Fq i else x.Fc c' i:=hi;clear hi;by_cases e:c'=c
 .subst e;rw[jP rfl]at m;have D:=z i m;exact⟨.inr ⟨D.1,by rw[H];exact D.2⟩,jP D.1⟩
 rw[jN e]at m;exact⟨.inl (h.fc c' i m).1,(jN (f _ (h.fc c' i m).1)).trans (h.fc c' i m).2⟩
theorem grow_grow{W1 W2:World}(h1:W.heap.size<=W1.heap.size)(h2:W1.heap.size<=W2.heap.size)(i:Nat):grow (grow F W W1) W1 W2 i↔grow F W W2 i:=by
 unfold grow;constructor
 .rintro((h|h)|h)
  .exact .inl h
  .exact .inr ⟨h.1,by omega⟩
  exact .inr ⟨by omega,h.2⟩
 rintro(h|h)
 .exact .inl (.inl h)
 by_cases e:i<W1.heap.size
 .exact .inl (.inr ⟨h.1,e⟩)
 exact .inr ⟨by omega,h.2⟩
theorem WdP.eqv{G:Nat->Prop}(h:WdP B F W g s d x)(e:∀i,F i↔G i):WdP B G W g s d x:=by
 have:F=G:=funext λi=>propext (e i);exact this▸h
end

theorem z3c(p b:Nat)(m:Mem)(a:Int)(w:World)(h:oA w p b m)(j:m.has a):
  Calls Tryz.prog 102 #[some p,a] w λe w'=>e=.returned (.int .u64 (m.get a))/\w'=w:=by
 have h1:=hd' (FQ p b m a w h j);obtain⟨n,o,i⟩:=hidv m.ws.length;have t:w.cell? ⟨p,0,.none⟩=some (.slice (some ⟨b,0,.none⟩) n n):=by rw[i];exact iA h.blk 0
 have y:=h.cell j;have a0:(0:Int)<=a:=j.1;have a1:a<(n:Int):=by rw[i];exact j.2
 clear i h j;generalize m.get a=v at*;go_in;go_wp2_with (go_at_call 132;refine h1.out.mono ?_;rintro r q ⟨rfl,l⟩;obtain rfl:=l.symm);go_returns;exact⟨rfl,rfl⟩
section

variable {B:Nat}{F:Nat->Prop}{W:World}{g:Nat}{s:Sh}{d:Wd}{x:Wx}

theorem OU(h:WdP B F W g s d x)(I:Fits s d.m)(c kind:Int)(hc:0<=c/\c<s.c):
  Calls Tryz.prog 49 #[some g,c,kind] W λe w'=>e=.returned (.tuple #[])/\WdP B F w' g s {d with m:=d.m.put c (ZA kind 0)} x/\Only F W w':=by
 have t:=(I.status hc);have l:=λY=>pC s.p s.c s.m c Y;rw[t.1]at l;have o:=λY=>YJ kind 0 Y;have q:=λY (L:oA Y x.p x.b d.m)=>z5o x.p x.b d.m c (ZA kind 0) Y L t.2 (QH _ _);have j:=λY w' (hb:Below W.heap.size W Y) (D:oA w' x.p x.b (d.m.put c (ZA kind 0))) (J:Only (λk=>k=x.b) Y w')=>(⟨WdP.put (h.below hb) (Only.weak J λi hi=>.inr hi) D,Only.trans (F:=F) (Only.of_below hb) J (λi _ hi=>by subst hi;exact h.fb.1)⟩:WdP B F w' g s {d with m:=d.m.put c (ZA kind 0)} x/\Only F W w');have y:=h.top.cell;have lg:g<W.heap.size:=h.top.lt;have D:=hd' h.wds;replace l:=hd' l;replace o:=hd' o;replace q:=hd' q;replace j:=hd' j;clear h I t;go_in;go_upto_region 0 with fail;refine wret 12 ?_;repeat (go_big_quiet_step ((first|(go_at_call 44;exact AA (l _))|(go_at_call 100;exact AA (o _)))))
 refine wqn λX z=>?_;have H:=z;have G:=D.out.below H;clear y;go_wp2_with (go_at_call 99;(with_reducible refine(q _ G).mono ?_);rintro r M ⟨rfl,E,C⟩);refine bodyPost_end (results_none rfl _ _ _) rfl ⟨rfl,j _ _ H E C⟩
def aH (s:Sh) (d:Wd) (c:Int):Int:=if 0<=uA s.p s.c s.m c then d.stat c else 0
theorem NP(h:WdP B F W g s d x)(H:Fits s d.m)(l:d.m.fit)(c:Int):
  Calls Tryz.prog 50 #[some g,c] W λe w'=>e=.returned (.int .i64 (aH s d c))/\Below W.heap.size W w':=by
 have j:=λY=>pC s.p s.c s.m c Y;obtain⟨c0,c1,c2⟩:=ci3 s.p s.c s.m h.top.cell;have c3:=ce (.pointer (some ⟨x.p,0,.none⟩)) (h.top.cell 3);have lg:g<W.heap.size:=h.top.lt;have N:∀(p:Nat) (W:World),(binOp .eql 27 (.pointer (some ⟨p,0,.none⟩)) (.pointer none)).run Tryz.prog W=.ok (.bool false) W:=λp W=>by kernel_rfl
 unfold aH;by_cases hc:0<=uA s.p s.c s.m c
 .rw[jP hc];have I:=sD hc;have G:0<=c/\c<s.c:=by omega
  have y:=H.status G;rw[y.1]at j hc;have z:=λY (D:oA Y x.p x.b d.m)=>z3c x.p x.b d.m c Y D y.2;have C:=λY=>gP (d.m.get c) Y (Mem.yF l c).1 (Mem.yF l c).2;have M:d.stat c=if (ZA (PA (d.m.get c)) (nA (d.m.get c) 0)==d.m.get c)=true then PA (d.m.get c) else 0:=rfl;rw[M];have U:=hd' h.wds;have T:¬c<0:=by omega
  generalize d.m.get c=v at*;generalize PA v=J at*;generalize nA v 0=L at*;generalize (ZA J L==v)=bb at*;have q:∀Y,jW W Y->oA Y x.p x.b d.m:=λY D=>U.out.below D;have o:∀Y,jK 101 #[.int .u64 v] Y λe w'=>e=.returned (.tuple #[.int .i64 (if bb=true then J else 0),.int .i64 (if bb=true then L else 0)])/\Below Y.heap.size Y w':=λY=>(C Y).mono λe w' ⟨a,b⟩=>⟨by rw[b];cases bb<;>rfl,a⟩;generalize (if bb=true then J else 0)=k1 at*;generalize (if bb=true then L else 0)=k2 at*;replace q:=hd' q;replace j:=hd' j;replace z:=hd' z;replace o:=hd' o;clear h H l I y M C;go_in;go_upto_region 3 with(go_at_call 44;(with_reducible refine(j _).mono ?_);rintro r O ⟨rfl,i⟩;have Z:=kA i _ _ _ c0;have d1:=kA i _ _ _ c1;have d2:=kA i _ _ _ c2;have d3:=kA i _ _ _ c3;have V:g<O.heap.size:=(by have:=i.size;omega));clear c0 c1 c2 c3;refine wre ?_;repeat (go_big_quiet_step ((first|(go_at_call 44;exact AA (j _))|(go_at_call 102;exact yG (z _ (q _ (qA i (Ext.below _)))))|(go_at_call 101;exact AA (o _)))))
  refine wqn λX E=>?_;have R:=qA i E;go_wp2_with fail;go_returns;exact⟨rfl,R⟩
 rw[jN hc];have S:uA s.p s.c s.m c<0:=by omega
 generalize uA s.p s.c s.m c=sx at*;replace j:=hd' j;clear h H l hc;go_in;go_wp2_with (go_at_call 44;(with_reducible refine(j _).mono ?_);rintro r O ⟨rfl,i⟩);go_returns;exact⟨rfl,i⟩
end

theorem WdP.weak{B:Nat}{F G:Nat->Prop}{W:World}{g:Nat}{s:Sh}{d:Wd}{x:Wx}(h:WdP B F W g s d x)(b:∀i,F i->G i)(f:∀i,G i->B<=i/\i<W.heap.size):WdP B G W g s d x:=
 ⟨h.top,h.wds,h.lst,h.pl,h.pe,h.cl,h.tr,h.lg,f,⟨b _ h.fg.1,h.fg.2⟩,⟨b _ h.fp.1,h.fp.2⟩,⟨b _ h.fb.1,h.fb.2⟩,⟨b _ h.fl.1,h.fl.2⟩,λi hi=>⟨b _ (h.ft i hi).1,(h.ft i hi).2⟩,λi hi=>⟨b _ (h.fs i hi).1,(h.fs i hi).2⟩,λc i hi=>⟨b _ (h.fc c i hi).1,(h.fc c i hi).2⟩⟩
theorem BW{w:World}{B f:Nat}{E:TypeId}{size:Nat}{v:Value}{n:Nat}{xs:List Value}(h:w.ownsRow B E size v n xs)(i:f<=B):w.ownsRow f E size v n xs:=
 ⟨h.1,h.2.imp id λ⟨g,cap,b,j,hb,rest⟩=>⟨g,cap,b,j,Nat.le_trans i hb,rest⟩⟩
theorem WdP.lower{B f:Nat}{F:Nat->Prop}{W:World}{g:Nat}{s:Sh}{d:Wd}{x:Wx}(h:WdP B F W g s d x)(b:f<=B):WdP f F W g s d x:=
 ⟨h.top,h.wds,h.lst,h.pl,h.pe,h.cl,BW h.tr b,BW h.lg b,λi hi=>⟨Nat.le_trans b (h.lt i hi).1,(h.lt i hi).2⟩,h.fg,h.fp,h.fb,h.fl,h.ft,h.fs,h.fc⟩
def WdTo (B:Nat) (F:Nat->Prop) (W W':World) (g:Nat) (s:Sh) (d:Wd):Prop:=(∃x,WdP B (grow F W W') W' g s d x)/\Only F W W'/\B<=W'.heap.size
section

variable {B:Nat}{F:Nat->Prop}{W W1 W2:World}{g:Nat}{s:Sh}{d d2:Wd}{x:Wx}

theorem WdTo.trans(h:WdTo B F W W1 g s d)(k:WdTo B (grow F W W1) W1 W2 g s d2):WdTo B F W W2 g s d2:=by
 obtain⟨_,h2,h3⟩:=h;obtain⟨⟨x,k1⟩,b,f⟩:=k;refine⟨⟨x,k1.eqv (grow_grow h2.size b.size)⟩,Only.trans h2 b (λi hi e=>?_),f⟩;rcases e with e|e
 .exact e
 omega
theorem WdTo.below(h:WdTo B F W W1 g s d)(f:B<=W.heap.size)(b:∀i,F i->B<=i/\i<W.heap.size)(hb:Below W1.heap.size W1 W2):WdTo B F W W2 g s d:=by
 obtain⟨⟨x,h1⟩,h2,h3⟩:=h;have hs:=hb.size;refine⟨⟨x,(h1.below hb).weak (λi hi=>?_) (λi hi=>?_)⟩,Only.trans (F:=F) h2 (Only.of_below (F:=λ_=>False) hb) (λ_ _ e=>e.elim),by omega⟩
 .rcases hi with hi|hi
  .exact .inl hi
  exact .inr ⟨hi.1,by omega⟩
 have:=h2.size;rcases hi with hi|hi
 .exact⟨(b i hi).1,by have:=(b i hi).2;omega⟩
 exact⟨by omega,hi.2⟩
theorem WdTo.start(h:WdP B F W g s d x)(b:B<=W.heap.size)(hb:Below W.heap.size W W1):WdTo B F W W1 g s d:=
 ⟨⟨x,(h.grows b hb)⟩,Only.of_below hb,by have:=hb.size;omega⟩
theorem WdTo.set(h:WdP B F W g s d x)(f:B<=W.heap.size)(h2:WdP B F W1 g s d2 x)(b:Only F W W1):WdTo B F W W1 g s d2:=by
 have hs:=b.size;refine⟨⟨x,h2.weak (λi hi=>.inl hi) (λi hi=>?_)⟩,b,by omega⟩;rcases hi with hi|hi
 .exact⟨(h.lt i hi).1,by have:=(h.lt i hi).2;omega⟩
 exact⟨by omega,hi.2⟩
theorem WdTo.from(h:WdP B F W g s d x)(l:B<=W.heap.size)(hb:Below W.heap.size W W1)(k:WdTo B F W1 W2 g s d2):WdTo B F W W2 g s d2:=by
 obtain⟨⟨x,k1⟩,b,j⟩:=k;have hs:=hb.size;have f:=b.size;refine⟨⟨x,k1.weak (λi hi=>?_) (λi hi=>?_)⟩,Only.trans (F:=F) (Only.of_below hb) b (λi _ hi=>hi),j⟩
 .rcases hi with hi|hi
  .exact .inl hi
  exact .inr ⟨by omega,hi.2⟩
 rcases hi with hi|hi
 .exact⟨(h.lt i hi).1,by have:=(h.lt i hi).2;omega⟩
 exact⟨by omega,hi.2⟩
def WdTq (R:(Nat->Nat)->Prop) (B:Nat) (F:Nat->Prop) (W W':World) (g:Nat) (s:Sh) (d:Wd):Prop:=(∃x,WdP B (grow F W W') W' g s d x/\R x.qs)/\Only F W W'/\B<=W'.heap.size
theorem WdTq.to{R:(Nat->Nat)->Prop}(h:WdTq R B F W W1 g s d):WdTo B F W W1 g s d:=by
 obtain⟨⟨x,h1,_⟩,h2,h3⟩:=h;exact⟨⟨x,h1⟩,h2,h3⟩
theorem WdTo.q{R:(Nat->Nat)->Prop}(h:WdTo B F W W1 g s d)(b:∀q,R q):WdTq R B F W W1 g s d:=by
 obtain⟨⟨x,h1⟩,h2,h3⟩:=h;exact⟨⟨x,h1,b _⟩,h2,h3⟩
theorem WdTq.imp{R S:(Nat->Nat)->Prop}(h:WdTq R B F W W1 g s d)(b:∀q,R q->S q):WdTq S B F W W1 g s d:=by
 obtain⟨⟨x,h1,h4⟩,h2,h3⟩:=h;exact⟨⟨x,h1,b _ h4⟩,h2,h3⟩
theorem WdTq.trans{R:(Nat->Nat)->Prop}(h:WdTo B F W W1 g s d)(k:WdTq R B (grow F W W1) W1 W2 g s d2):WdTq R B F W W2 g s d2:=by
 obtain⟨_,h2,h3⟩:=h;obtain⟨⟨x,k1,j⟩,b,f⟩:=k;refine⟨⟨x,k1.eqv (grow_grow h2.size b.size),j⟩,Only.trans h2 b (λi hi e=>?_),f⟩;rcases e with e|e
 .exact e
 omega
theorem WdTq.start{R:(Nat->Nat)->Prop}(h:WdP B F W g s d x)(b:B<=W.heap.size)(hb:Below W.heap.size W W1)(f:R x.qs):WdTq R B F W W1 g s d:=
 ⟨⟨x,(h.grows b hb),f⟩,Only.of_below hb,by have:=hb.size;omega⟩
theorem WdTq.from{R:(Nat->Nat)->Prop}(h:WdP B F W g s d x)(l:B<=W.heap.size)(hb:Below W.heap.size W W1)(k:WdTq R B F W1 W2 g s d2):WdTq R B F W W2 g s d2:=by
 obtain⟨⟨x,k1,q⟩,f,j⟩:=k;obtain⟨⟨r,o⟩,b,p⟩:=WdTo.from h l hb (⟨⟨x,k1⟩,f,j⟩:WdTo B F W1 W2 g s d2);have hs:=hb.size;refine⟨⟨x,k1.weak (λi hi=>?_) (λi hi=>?_),q⟩,b,j⟩
 .rcases hi with hi|hi
  .exact .inl hi
  exact .inr ⟨by omega,hi.2⟩
 have m:=f.size;rcases hi with hi|hi
 .exact⟨(h.lt i hi).1,by have:=(h.lt i hi).2;omega⟩
 exact⟨by omega,hi.2⟩
end

theorem BZ{W:World}(e:Ev):RdE (W.alloc (.cells e.cells 62)) (.slice (some ⟨W.heap.size,0,.none⟩) 1 1) [e]:=by
 have h:=RdS.new (sz:=8) (n:=1) (jA W (.cells e.cells 62)) rfl (by omega);unfold RdE;simpa using h
theorem WdP.ptr{B:Nat}{F:Nat->Prop}{W:World}{g:Nat}{s:Sh}{d:Wd}{x:Wx}(h:WdP B F W g s d x){c:Int}(h0:0<=c)(hc:c.toNat<d.l.length):W.cell? ⟨x.lb,c.toNat,.none⟩=some (ptrK (d.kl c) (x.qs c.toNat)):=by
 refine(h.lst.cell _).trans ?_;have:=h.pe c.toNat hc;unfold Wd.kl;rw[jP h0];simpa using this
section

variable {B:Nat}{F:Nat->Prop}{W:World}{g:Nat}{s:Sh}{d:Wd}{x:Wx}{n:Nat}

theorem pQ(h:WdP B F W g s d x)(b:B<=W.heap.size)(es:List Ev)(v:Value)(j:RdE W v es)(i:d.tr.length+es.length<=100000000):
  Calls Tryz.prog 48 #[some g,v] W λe w'=>e=.returned (.tuple #[])/\WdTq (λq=>q=x.qs) B F W w' g s {d with tr:=d.tr++es}:=
 (z04 h b es v j i).mono λe w' ⟨h1,l,h2,h3,h4⟩=>⟨h1,⟨l,h2,h4⟩,h3,by have:=h3.size;omega⟩
theorem KX(h:WdP B F W g s d x)(b:B<=W.heap.size)(es:List Ev)(v:Value)(j:RdE W v es)(i:d.tr.length+es.length<=100000000):
  Calls Tryz.prog 48 #[some g,v] W λe w'=>e=.returned (.tuple #[])/\WdTo B F W w' g s {d with tr:=d.tr++es}:=
 (pQ h b es v j i).mono λe w' h=>⟨h.1,h.2.to⟩
theorem z1i(h:WdP B F W g s d x)(i:B<=W.heap.size)(b:Ev)(j:d.tr.length+1<=100000000):
  Calls Tryz.prog 48 #[some g,.slice (some ⟨W.heap.size,0,.none⟩) 1 1] (W.alloc (.cells b.cells 62)) λe w'=>e=.returned (.tuple #[])/\WdTo B F W w' g s {d with tr:=d.tr++[b]}:=by
 have hb:=(Below.refl W.heap.size W).alloc lr (.cells b.cells 62);have h1:=h.grows i hb;refine(KX h1 (by simp;omega) [b] _ (BZ b) j).mono λe w' hS=>⟨hS.1,(WdTo.start h i hb).trans hS.2⟩
theorem UV(h:WdP B F W g s d x)(b:B<=W.heap.size)(k c:Int)(i:d.tr.length+1<=100000000):
  Calls Tryz.prog 48 #[some g,.slice (some ⟨W.heap.size,0,.none⟩) 1 1] (W.alloc (.cells #[k,c,.int .i64 0,.int .i64 0,.int .i64 0,.int .i64 0,.int .i64 0,.int .i64 0] 62)) λe w'=>e=.returned (.tuple #[])/\WdTo B F W w' g s {d with tr:=d.tr++[⟨k,c,0,0,0,0,0,0⟩]}:=
 z1i h b ⟨k,c,0,0,0,0,0,0⟩ i
theorem zyt(h:WdP B F W g s d x)(hB:B<=W.heap.size)(ho:wdOk s d n)(hn:n<=30000000)(c:Ch)(hc:0<=c.client/\c.client<s.c):
  Calls Tryz.prog 45 #[some g,.agg c.cells.toArray] W λe w'=>e=.returned (.int .i64 (d.begin s c).2)/\WdTo B F W w' g s (d.begin s c).1:=by
 have c5:=ho.fi.bd;have hi:c.client.toNat<d.l.length:=by rw[ho.len];omega
 have b3:=ho.tr;have bb:0<=uA s.p s.c s.m c.client:=by rw[UH ho.fi.may hc];exact hc.1
 obtain⟨M,b,N,J,cn,j⟩:=c;show Calls Tryz.prog 45 #[some g,.agg #[M,b,N,J,cn,.float .f64 j]] W _;dsimp only at hc hi bb;have z:=(Below.refl W.heap.size W).alloc lr (.cells #[M,b,N,J,cn,.float .f64 j] 38);have t0:aA (W.alloc (.cells #[M,b,N,J,cn,.float .f64 j] 38)) W.heap.size #[M,b,N,J,cn,.float .f64 j] 38:=heap_alloc_new _ _;have E:=NP (h.below z) ho.fi ho.fit b;have hv:aH s d b=d.stat b:=if_pos bb;rw[hv]at E;have h1:=h.below z;have bj:B<=(W.alloc (.cells #[M,b,N,J,cn,.float .f64 j] 38)).heap.size:=by simp;omega
 have bx:g<(W.alloc (.cells #[M,b,N,J,cn,.float .f64 j] 38)).heap.size:=(h.below z).top.lt;have b4:¬F W.heap.size:=λe=>by have:=(h.lt _ e).2;omega
 have D:=λW1 W2 d2 (hb:Below W.heap.size W W1)=>WdTo.from (W1:=W1) (W2:=W2) (d2:=d2) h hB hb;have y:=λW1 (hb:Below W.heap.size W W1)=>WdTo.start (W1:=W1) h hB hb;have S:W.heap.size≠x.lb:=λe=>by have:=(h.lt _ h.fl.1).2;omega
 clear h hv;have bq:d.stat b=0\/d.stat b≠0:=Decidable.em _;have T:∀Y,Calls Tryz.prog 91 #[.agg #[s.p,s.c,s.m],b,.float .f64 j] Y λe w'=>∃q,e=.returned (.pointer (some ⟨q,0,.none⟩))/\KlO (λi=>Y.heap.size<=i/\i<w'.heap.size) w' q s (DE b (Fl.jD j s.p))/\Below Y.heap.size Y w':=λY=>(z0k s b j Y (by omega)).mono λe w' hh=>by obtain⟨h1,h2⟩:=hh;rw[if_neg (by rw[UH ho.fi.may hc];omega)]at h2;obtain⟨q,e,h3⟩:=h2;exact⟨q,e,h3,h1⟩
 have b2:=λF' Y L x' (hY:WdP B F' Y g s {d with l:=L} x')=>OU hY ho.fi b 1 hc;replace T:=hd' T;replace b2:=hd' b2;replace E:=hd' E;replace D:=hd' D;replace y:=hd' y;replace b3:=hd' b3;have I:d.begin s ⟨M,b,N,J,cn,j⟩=if d.stat b=0 then(⟨d.m.put b (ZA 1 0),d.l.set b.toNat (some (DE b (Fl.jD j s.p))),d.tr++[WE b],d.lg⟩,0) else(d,5):=rfl;obtain⟨R,hR,b6⟩:∃R:Wd×Int,Hid (R=d.begin s ⟨M,b,N,J,cn,j⟩)/\R=d.begin s ⟨M,b,N,J,cn,j⟩:=⟨_,hd' rfl,rfl⟩;rw[<-b6];clear b6;replace I:=hd' I;go_in;go_upto_region 1 with fail;generalize W.alloc (.cells #[M,b,N,J,cn,.float .f64 j] 38)=X at*;obtain⟨H,hH,b5⟩:=hidv W.heap.size;rw[<-b5]at t0 S b4|-;clear b5;replace z:=hd' z;have lH:=t0.lt;have bg:=t0.cell;rcases bq with hu|hu
 .have b0:=hd' ((hR.out.trans I.out).trans (if_pos hu));rw[hu]at E;clear hu hR I;go_upto_region 3 with(go_at_call 50;(with_reducible refine E.out.mono ?_);rintro r w1 ⟨rfl,C⟩);have h3:=h1.below C;have bp:=hd' (qA z.out C);have t1:=t0.below C;have bh:B<=w1.heap.size:=by have:=C.size;omega
  clear bg t0 E h1 lH bx C bj z y;have c8:=(h3.lt _ h3.fl.1).2;have lH:=t1.lt;have lg:=h3.top.lt;have bs:g≠x.lb:=λe=>by have:=h3.fg.2;have:=h3.fl.2;rw[e]at*;omega
  have hK:∀Y:World,aA Y H #[M,b,N,J,cn,.float .f64 j] 38->aA Y g (qC s x.p x.lb d.l.length x.tv x.sv) 105->(Y.cell? ⟨H,1,.none⟩=some (.int .i64 b)/\Y.cell? ⟨H,5,.none⟩=some (.float .f64 j)/\Y.cell? ⟨g,0,.none⟩=some (.int .i64 s.p)/\Y.cell? ⟨g,1,.none⟩=some (.int .i64 s.c)/\Y.cell? ⟨g,2,.none⟩=some (.int .i64 s.m)/\Y.cell? ⟨g,4,.none⟩=some (.slice (some ⟨x.lb,0,.none⟩) d.l.length d.l.length)):=λY h1 h2=>⟨h1.cell 1,h1.cell 5,h2.cell 0,h2.cell 1,h2.cell 2,h2.cell 4⟩;have G:∀Y:World,Below w1.heap.size w1 Y->aA Y H #[M,b,N,J,cn,.float .f64 j] 38/\aA Y g (qC s x.p x.lb d.l.length x.tv x.sv) 105/\Y.cell? ⟨x.lb,b.toNat,.none⟩=some (ptrK (d.kl b) (x.qs b.toNat))/\(∀i,Y.frozen? ⟨x.lb,i,.none⟩=false)/\x.lb<Y.heap.size:=λY hb=>⟨t1.below hb,(h3.below hb).top,(h3.below hb).ptr hc.1 hi,KA (h3.below hb).lst,(h3.below hb).lst.lt⟩;replace hK:=hd' hK;replace G:=hd' G;have c7:b<(d.l.length:Int):=by omega
  have c6:=hc.1
  go_region_held3 (λY=>Y.cell? ⟨H,1,.none⟩=some (.int .i64 b)/\Y.cell? ⟨H,5,.none⟩=some (.float .f64 j)/\Y.cell? ⟨g,0,.none⟩=some (.int .i64 s.p)/\Y.cell? ⟨g,1,.none⟩=some (.int .i64 s.c)/\Y.cell? ⟨g,2,.none⟩=some (.int .i64 s.m)/\Y.cell? ⟨g,4,.none⟩=some (.slice (some ⟨x.lb,0,.none⟩) d.l.length d.l.length))
   (first|exact hK.out _ (G.out _ br.drew).1 (G.out _ br.drew).2.1|exact hK.out _ V.1 V.2.1|exact hK.out _ (V.1.other S _ _) (V.2.1.other bs _ _))
   (first|(go_at_call 91;(with_reducible refine(T.out _).mono ?_);rintro r w4 ⟨q,rfl,b8,b1⟩;have V:=G.out _ (br.drew.trans b1);have z4:=V.2.2.1;have zf:=V.2.2.2.1;have zl:=V.2.2.2.2))
  have Z:Below w1.heap.size w1 w4:=br.drew.trans b1;obtain⟨x',U,b9,_,_⟩:=h3.place (o:=some (DE b (Fl.jD j s.p))) (q:=q) bh hi Z (λk e=>by injection e with e;subst e;exact b8) (λi hi=>hi) rfl;have tY:=V.1.other S b.toNat (ptrK (some (DE b (Fl.jD j s.p))) q);have c9:=b9.size;have bm:=hd' (⟨⟨x',U⟩,b9,by omega⟩:WdTo B F w1 _ g s {d with l:=d.l.set b.toNat (some (DE b (Fl.jD j s.p)))});change Exit.then _ _ _ _ (w4.setCell ⟨x.lb,b.toNat,.none⟩ (ptrK (some (DE b (Fl.jD j s.p))) q));generalize w4.setCell ⟨x.lb,b.toNat,.none⟩ (ptrK (some (DE b (Fl.jD j s.p))) q)=Y at*;have bz:=tY.cell;have lY:=tY.lt;have bu:¬grow F w1 Y H:=λe=>by rcases e with e|e;exact b4 e;omega
  have bk:B<=Y.heap.size:=by omega
  have cf:=U.top.lt;clear V z4 zf zl b1 b8 Z hK G T h3 S;have O:d.tr.length+1<=100000000:=by have:=b3.out;omega
  replace O:=hd' O;go_wp2_with (first|(go_at_call 49;go_loud ((with_reducible refine(b2.out _ _ _ _ U).mono ?_);rintro r w5 ⟨rfl,bw,ba⟩;have bf:=tY.only ba bu;have c4:=bf.cell;have l5:=bf.lt;have b7:=hd' (WdTo.trans bm.out (WdTo.set U bk bw ba));obtain⟨⟨x2,bc⟩,_,bi⟩:=id b7.out;have cd:=bc.top.lt;have bv:=UV bc bi 0 b O.out))|(go_at_call 48;(with_reducible refine bv.mono ?_);rintro r w6 ⟨rfl,bn⟩));go_returns;rw[b0.out];exact⟨rfl,D.out _ _ _ bp.out (b7.out.trans bn)⟩
 have b0:=hd' ((hR.out.trans I.out).trans (if_neg hu));clear hR I;generalize d.stat b=sv at*;go_wp2_with (go_at_call 50;(with_reducible refine E.out.mono ?_);rintro r w1 ⟨rfl,C⟩);go_returns;rw[b0.out];exact⟨rfl,y.out _ (qA z.out C)⟩
end

theorem z8u:(Tryz.prog.info? 155).map (λi=>(i.zero,i.size,i.bytes))=some (some (.agg #[.int .i64 0,.int .i64 0,.int .i64 0,.int .u64 0,.int .u64 0,.bool false]),6,48):=by kernel_rfl
theorem SI{w w':World}{B:Nat}{E:TypeId}{size:Nat}{v:Value}{n:Nat}{xs:List Value}(h:w.ownsRow B E size v n xs)(hb:Below w.heap.size w w'):w'.ownsRow B E size v n xs:=
 oC h λk b=>hb.block k (h.lt k b).2
def Wx.logd (x:Wx) (sv:Value) (N:Nat):Wx:={x with sv:=sv,ow:=λi=>if N<=i then 5 else x.ow i}
theorem WdP.logged{B:Nat}{F:Nat->Prop}{W W' W2:World}{g:Nat}{s:Sh}{d:Wd}{x:Wx}{v':Value}{es:List Acc}(h:WdP B F W g s d x)(J:B<=W.heap.size)(G:W.grownBy W' x.sv.ownBlock)(E:W'.ownsRow B 155 6 v' (d.lg.length+es.length) ((d.lg.flatMap λe=>e.cells.toList)++es.flatMap λe=>e.cells.toList))(j:v'.ownBlock=x.sv.ownBlock\/v'.ownBlock=some W.heap.size) (h2:W2=W'.setCell ⟨g,6,.none⟩ v'):
  WdP B (grow F W W2) W2 g s {d with lg:=d.lg++es} (x.logd v' W.heap.size)/\Only (λi=>(x.ow i=5/\F i)\/i=g) W W2:=by
 have D:W2.heap.size=W'.heap.size:=by rw[h2];simp[World.setCell]
 have H:∀i,x.sv.ownBlock=some i->F i:=λi hi=>(h.fs i hi).1;have y:Only (λi=>x.ow i=5/\F i) W W':=(Only.refl _ W).grown G λk o=>.inl ⟨(h.fs k o).2,(h.fs k o).1⟩;have f:Only (λi=>(x.ow i=5/\F i)\/i=g) W W2:=by rw[h2];exact Only.setCell (Only.weak y λk o=>.inl o) (p:=⟨g,6,.none⟩) (.inl (.inr rfl)) v'
 have r:∀i,F i->¬W.heap.size<=i:=λi hi=>by have:=(h.lt i hi).2;omega
 have b:∀i,F i->(x.logd v' W.heap.size).ow i=x.ow i:=λi hi=>jN (r i hi);have C:∀i,x.ow i≠5->i≠g->¬((x.ow i=5/\F i)\/i=g):=λi h1 h2 e=>e.elim (λe=>h1 e.1) h2;have q:∀i,x.ow i≠0->i≠g:=λi hi e=>hi (e▸h.fg.2);have own:∀i m,x.ow i=m->m≠5->m≠0->¬((x.ow i=5/\F i)\/i=g):=λi m L h4 h0=>C i (by omega) (q i (by omega))
 refine⟨⟨?_,h.wds.only f (own _ 1 h.fp.2 (by decide) (by decide)) (own _ 2 h.fb.2 (by decide) (by decide)),h.lst.only f (own _ 3 h.fl.2 (by decide) (by decide)),h.pl,h.pe,λc k o=>(h.cl c k o).only f (λi hi=>own i (c+6) (h.fc c i hi).2 (by omega) (by omega)),
  oC h.tr λi hi=>f.block i (h.tr.lt i hi).2 (own i 4 (h.ft i hi).2 (by decide) (by decide)),?_,λi hi=>?_,⟨.inl h.fg.1,(b _ h.fg.1).trans h.fg.2⟩,⟨.inl h.fp.1,(b _ h.fp.1).trans h.fp.2⟩,⟨.inl h.fb.1,(b _ h.fb.1).trans h.fb.2⟩,⟨.inl h.fl.1,(b _ h.fl.1).trans h.fl.2⟩,λi hi=>⟨.inl (h.ft i hi).1,(b _ (h.ft i hi).1).trans (h.ft i hi).2⟩,
  λi hi=>?_,λc i hi=>⟨.inl (h.fc c i hi).1,(b _ (h.fc c i hi).1).trans (h.fc c i hi).2⟩⟩,f⟩
 .have I:aA W' g (qC s x.p x.lb d.l.length x.tv x.sv) 105:=h.top.only y (λe=>by have:=h.fg.2;omega);rw[h2];exact I.set 6 v'
 .rw[h2];refine oC (w:=W') ?_ λi hi=>Below.heap_setCell _ ⟨g,6,.none⟩ _ i ?_
  .simpa[Wx.logd] using E
  rcases j with j|j
  .rw[show (x.logd v' W.heap.size).sv=v' from rfl,j]at hi;have:=(h.fs i hi).2;exact q i (by omega)
  rw[show (x.logd v' W.heap.size).sv=v' from rfl,j]at hi;injection hi with hi;have:=(h.lt _ h.fg.1).2;show i≠g;omega
 .rcases hi with hi|hi
  .exact⟨(h.lt i hi).1,by have:=(h.lt i hi).2;have:=f.size;omega⟩
  exact⟨by omega,hi.2⟩
 rw[show (x.logd v' W.heap.size).sv=v' from rfl]at hi;rcases j with j|j
 .rw[j]at hi;exact⟨.inl (h.fs i hi).1,(b _ (h.fs i hi).1).trans (h.fs i hi).2⟩
 have z:=E.lt i hi;rw[j]at hi;injection hi with hi;subst hi;exact⟨.inr ⟨Nat.le_refl _,by rw[D];exact z.2⟩,jP lr⟩
section

variable {B:Nat}{F:Nat->Prop}{W:World}{g:Nat}{s:Sh}{d:Wd}{x:Wx}{n:Nat}

theorem z2w(h:WdP B F W g s d x)(hB:B<=W.heap.size)(ho:wdOk s d n)(hn:n<=30000000)(c:Int)(k:Kl)(hk:d.kl c=some k):
  Calls Tryz.prog 46 #[some g,.pointer (some ⟨x.qs c.toNat,0,.none⟩)] W λe w'=>e=.returned (.int .i64 (d.step s c k).2)/\WdTq (λq=>q=x.qs) B F W w' g s (d.step s c k).1:=by
 obtain⟨c8,cg,bx⟩:=ho.kl c k hk;have bw:=(Wd.rC hk).2;have bi:d.l.getD c.toNat none=some k:=by have h1:=hk;unfold Wd.kl at h1;rw[jP bx.1]at h1;exact h1
 have cu:=ho.st;have bh:=h.cw (n:=0) bi c8 ho.fi;have ch:=Kl.vX s k d.m;have b4:=ho.lg;have cv:=ho.tr;have L:=UY bh hB (by omega);have b7:=wV x.p x.b d.m W h.wds;have T:d.step s c k=(⟨(k.step s d.m).2.1,d.l.set c.toNat (some (k.step s d.m).1),d.tr++(k.step s d.m).2.2.1,if d.m.st<(k.step s d.m).2.1.st then d.lg++[(k.step s d.m).2.1.la] else d.lg⟩,(k.step s d.m).2.2.2):=rfl
 have b2:∀r w',LO B (x.Fc c.toNat) W w' (x.qs c.toNat) x.p x.b s k d.m r->∃v,r=.returned (.tuple #[v,.int .i64 (k.step s d.m).2.2.2])/\w'.ownsRow W.heap.size 62 8 v (k.step s d.m).2.2.1.length ((k.step s d.m).2.2.1.flatMap λe=>e.cells.toList)/\
   WdP B (grow F W w') w' g s {d with m:=(k.step s d.m).2.1,l:=d.l.set c.toNat (some (k.step s d.m).1)} (x.mine c.toNat W.heap.size w'.heap.size)/\Only F W w':=λr w' hS=>by
  obtain⟨v,h1,h2⟩:=hS.ret
  have h3:=h.stepped hB bi bw hS.cw.kl hS.cw.wd hS.only
  exact⟨v,h1,h2,h3.1,h3.2⟩
 have cj:=(h.lt _ h.fg.1).2;have c3:=ce (.pointer (some ⟨x.p,0,.none⟩)) (h.top.cell 3);have lg:=h.top.lt;have cm:∀w',grow F W w' g:=λw'=>.inl h.fg.1;clear bh h;generalize (k.step s d.m).1=k' at*;generalize (k.step s d.m).2.2.2=er at*;generalize (k.step s d.m).2.2.1=es at*;generalize (k.step s d.m).2.1=I at*;obtain⟨R,cf,X⟩:∃R:Wd×Int,Hid (R=d.step s c k)/\R=d.step s c k:=⟨_,hd' rfl,rfl⟩;rw[<-X]at T|-;clear X;replace T:=hd' T;replace b7:=hd' b7;replace L:=hd' L;replace b2:=hd' b2;replace b4:=hd' b4;go_in;go_upto_region 3 with(first|(go_at_call 92;(with_reducible refine b7.out.mono ?_);rintro r w1 ⟨rfl,c9⟩;obtain rfl:=c9.symm)|(go_at_call 93;(with_reducible refine L.out.mono ?_);rintro r C hS;obtain⟨v,rfl,H,j,bk⟩:=b2 _ _ hS;clear hS;have f3:=ce (.pointer (some ⟨x.p,0,.none⟩)) (j.top.cell 3);have l3:=j.top.lt));have b1:B<=C.heap.size:=by have:=bk.size;omega
 have bf:WdTo B F W C g s {d with m:=I,l:=d.l.set c.toNat (some k')}:=⟨⟨_,j⟩,bk,b1⟩;have bp:oA C x.p x.b I:=j.wds;have bm:=hd' (wV x.p x.b I C bp);by_cases bj:d.m.st<I.st
 .replace T:=hd' (T.out.trans (by rw[jP bj]:_=((⟨I,d.l.set c.toNat (some k'),d.tr++es,d.lg++[I.la]⟩:Wd),er)));have y:=λY (hY:oA Y x.p x.b I)=>z4k x.p x.b I Y hY;unfold accV at y;have bb:=λY (hb:Below C.heap.size C Y)=>bp.below hb;have E:C.ownsRow B 155 6 x.sv d.lg.length (d.lg.flatMap λe=>e.cells.toList):=j.lg;have c6:=ce x.sv (j.top.cell 6);obtain⟨i0,c4,cb,cc,cd⟩:=info_parts z8u;obtain⟨N,O,V,h0⟩:=RdS.lD E;clear h0;have G:=λY W' v' W2 (hb:Below C.heap.size C Y)=>WdP.logged (W:=Y) (W':=W') (W2:=W2) (v':=v') (es:=[I.la]) (j.below hb) (by have:=hb.size;omega);have bz:=j.fg.2;rw[V]at c6;have S:∀Y:World,jW C Y->Y.ownsRow B 155 6 (.slice N d.lg.length O) d.lg.length (d.lg.flatMap λe=>e.cells.toList)/\aA Y g (qC s x.p x.lb (d.l.set c.toNat (some k')).length x.tv x.sv) 105/\Y.cell? ⟨g,3,.none⟩=some (.pointer (some ⟨x.p,0,.none⟩))/\Y.cell? ⟨g,6,.none⟩=some (.slice N d.lg.length O):=λY hb=>⟨V▸SI E hb,j.top.below hb,(j.below hb).top.cell 3,V▸(j.below hb).top.cell 6⟩;have b3:∀i,x.sv.ownBlock=some i->i≠g:=λi hi e=>by have:=(j.fs i hi).2;rw[e,bz]at this;cases this
  have cl:d.lg.length<=30000000:=by have:=b4.out;omega
  replace y:=hd' y;replace bb:=hd' bb;replace S:=hd' S;replace G:=hd' G;replace b3:=hd' b3;replace V:=hd' V;replace E:=hd' E;have c7:(Value.slice N d.lg.length O).ownBlock≠some g:=λe=>b3 g (by rw[V];exact e) rfl;have b8:∀Y w5:World,aA Y g (qC s x.p x.lb (d.l.set c.toNat (some k')).length x.tv x.sv) 105->∀o,(Y.alloc o).grownBy w5 (Value.slice N d.lg.length O).ownBlock->aA w5 g (qC s x.p x.lb (d.l.set c.toNat (some k')).length x.tv x.sv) 105:=λY w5 h1 o h2=>(h2.block g (h1.alloc o).lt (λe=>c7 e.symm)).trans (h1.alloc o);replace b8:=hd' (λY w5 h1 {o} h2=>b8 Y w5 h1 o h2);generalize ck:I.la=la at*;obtain⟨ac,ak,aa,aw,ap,ao⟩:=la;dsimp only at y;have b5:∀u∈([.int .i64 ac,.int .i64 ak,.int .i64 aa,.int .u64 aw,.int .u64 ap,.bool ao]:List Value),u.oneCell'=true:=λu hu=>by simp only[List.mem_cons,List.not_mem_nil,or_false]at hu;rcases hu with rfl|rfl|rfl|rfl|rfl|rfl<;>rfl
  replace b5:=hd' b5;go_upto_region 4 with(first|(go_at_call 92;(with_reducible refine bm.out.mono ?_);rintro r w4 ⟨rfl,ba⟩;obtain rfl:=ba.symm));have dd:=(Below.refl C.heap.size C).drew;have d6:=(S _ dd).2.2.2;have bc:=hd' dd;clear dd
  go_region_law
   (first|(refine sG (by rfl) (.tmp 33) (.tmp 39) 103 (by rfl) B 155 i0 _ 6 48 Tryz.underlying103 c4 cb cc cd rfl (by omega) _ d.lg.length _ (by rfl) (k4.1.alloc _) _ 1 [.int .i64 ac,.int .i64 ak,.int .i64 aa,.int .u64 aw,.int .u64 ap,.bool ao] (by rfl) (RdS.new (cs:=#[ac,ak,aa,.int .u64 aw,.int .u64 ap,ao]) (t:=155) (sz:=6) (n:=1) (jA w4 _) rfl (by omega)) b5 (by simp only[maxLen];omega) (by omega) (by simp;omega) ?_;intro v1 w5 D z b0;obtain⟨a5,c5,e5,_⟩:=RdS.lD D;subst e5;have t5:=b8 _ _ k4.2.1 z;have l5:=t5.lt;have q5:=ce x.sv (t5.cell 6);have z5:=KA t5)|(go_simp;go_at_call 94;(with_reducible refine(y _ (bb _ bc.out)).mono ?_);rintro r w4 ⟨rfl,bv⟩;have J:=bc.out.trans bv;have k4:=S _ J;have y6:=k4.2.2.2;have l4:=k4.2.1.lt;have cp:=J.size))
  all_goals
   have U:Below C.heap.size C (w4.alloc (.cells #[ac,ak,aa,.int .u64 aw,.int .u64 ap,ao] 155)):=qA J ((Below.refl w4.heap.size w4).alloc lr _);have M:=G _ _ _ _ U (show World.grownBy _ _ x.sv.ownBlock from (by rw[V];exact z)) D (show Value.ownBlock _=x.sv.ownBlock\/_ from (by rw[V];exact b0)) rfl;generalize World.setCell w5 ⟨g,6,.none⟩ _=w6 at*;have cr:=U.size;have cq:=M.2.size;have Z:WdTq (λq=>q=x.qs) B (grow F W C) C w6 g s ⟨I,d.l.set c.toNat (some k'),d.tr,d.lg++[⟨ac,ak,aa,aw,ap,ao⟩]⟩:=WdTq.from j b1 U ⟨⟨_,M.1,rfl⟩,Only.weak M.2 (λi hi=>hi.elim (λe=>e.2) (λe=>e▸j.fg.1)),by omega⟩
   have bn:w6.ownsRow W.heap.size 62 8 v es.length (es.flatMap λe=>e.cells.toList):=oC (SI H U) λi hi=>M.2.block i (by have:=(H.lt i hi).2;omega) (λe=>by
    have h8:=(H.lt i hi).1
    rcases e with e|e
    .have h9:(x.mine c.toNat W.heap.size C.heap.size).ow i=c.toNat+6:=jP h8
     omega
    .omega)
   have bg:=WdTq.trans bf Z;obtain⟨⟨x6,ca,b6⟩,_,bq⟩:=id bg;replace b6:=hd' b6;have b9:=hd' (pQ ca bq es v (AQ bn) (by show d.tr.length+es.length<=_;omega));clear M Z bn D z b0 t5 q5 z5 l5 G;go_wp2_with (first|(go_at_call 48;(with_reducible refine b9.out.mono ?_);rintro r w7 ⟨rfl,bu⟩));go_returns;rw[T];exact⟨rfl,WdTq.trans bg.to (bu.imp λq e=>e.trans b6.out)⟩
 replace T:=hd' (T.out.trans (by rw[jN bj]:_=((⟨I,d.l.set c.toNat (some k'),d.tr++es,d.lg⟩:Wd),er)));have b9:=hd' (pQ j b1 es v (AQ H) (by show d.tr.length+es.length<=_;omega));go_wp2_with (first|(go_at_call 92;(with_reducible refine bm.out.mono ?_);rintro r w4 ⟨rfl,ba⟩;obtain rfl:=ba.symm)|(go_at_call 48;(with_reducible refine b9.out.mono ?_);rintro r w5 ⟨rfl,bs⟩));go_returns;rw[T];exact⟨rfl,WdTq.trans bf (bs.imp λq e=>e)⟩
end

theorem yfd:(Tryz.prog.info? 57).map (λi=>(i.zero,i.size,i.bytes))=some (some (.pointer none),1,8):=by kernel_rfl
theorem z8e(n:Nat)(l:n<=100):∀u:World,(Instr.makeSlice 102 (.int .i64 (n:Int)) (.int .i64 (n:Int))).run Tryz.prog u=.ok (.slice (some ⟨u.heap.size,0,.none⟩) n n) (u.alloc (.cells (madeCells #[.pointer none] n) 57)):=λu=>by
 obtain⟨j,hi,b,f,i⟩:=info_parts yfd
 have h:=run_make (P:=Tryz.prog) u 102 57 j (.pointer none) Tryz.underlying102 hi b .i64 .i64 (n:Int) (n:Int) (by omega) (Int.le_refl _) (by rw[i];omega) (by omega)
 rw[Int.toNat_natCast]at h
 simpa[f,Value.cells] using h
theorem z6e(n:Nat):madeCells #[.pointer none] n=(List.replicate n (.pointer none)).toArray:=by
 apply Array.toList_inj.1;rw[toList_madeCells_one]
theorem z0c{W Z:World}{s:Sh}{p b lb:Nat}(J:mayB s.p s.c s.m=true)(z:W.heap.size<=p/\W.heap.size<=b/\W.heap.size<=lb)(o:lb≠p/\lb≠b)(y:oA Z p b (DF (xB s.p s.c s.m).toNat)) (G:aA Z lb (madeCells #[.pointer none] s.c.toNat) 57) (D:Below W.heap.size W Z):
  Below W.heap.size W (Z.alloc (.cells #[s.p,s.c,s.m,some p,.slice (some ⟨lb,0,.none⟩) s.c.toNat s.c.toNat,.slice none 0 0,.slice none 0 0] 105))/\
  ∃x,WdP W.heap.size (λi=>W.heap.size<=i/\i<(Z.alloc (.cells #[s.p,s.c,s.m,some p,.slice (some ⟨lb,0,.none⟩) s.c.toNat s.c.toNat,.slice none 0 0,.slice none 0 0] 105)).heap.size)
   (Z.alloc (.cells #[s.p,s.c,s.m,some p,.slice (some ⟨lb,0,.none⟩) s.c.toNat s.c.toNat,.slice none 0 0,.slice none 0 0] 105)) Z.heap.size s (sB s) x:=by
 have hb:=JA.1 J;have hs:=D.size;have j:=(Below.refl Z.heap.size Z).alloc lr (.cells #[s.p,s.c,s.m,some p,.slice (some ⟨lb,0,.none⟩) s.c.toNat s.c.toNat,.slice none 0 0,.slice none 0 0] 105);have r:aA (Z.alloc (.cells #[s.p,s.c,s.m,some p,.slice (some ⟨lb,0,.none⟩) s.c.toNat s.c.toNat,.slice none 0 0,.slice none 0 0] 105)) Z.heap.size #[s.p,s.c,s.m,some p,.slice (some ⟨lb,0,.none⟩) s.c.toNat s.c.toNat,.slice none 0 0,.slice none 0 0] 105:=jA _ _;have M:=y.ltp;have H:=y.ltb;have I:=G.lt;have C:=y.ne;have f:(sB s).l.length=s.c.toNat:=by simp[sB]
 have q:∀c,(sB s).l.getD c none=none:=λc=>by unfold sB;rw[List.getD_eq_getElem?_getD,List.getElem?_replicate];split<;>rfl
 have L:(Z.alloc (.cells #[s.p,s.c,s.m,some p,.slice (some ⟨lb,0,.none⟩) s.c.toNat s.c.toNat,.slice none 0 0,.slice none 0 0] 105)).heap.size=Z.heap.size+1:=by simp
 refine⟨D.alloc (by omega) _,⟨p,b,lb,.slice none 0 0,.slice none 0 0,List.replicate s.c.toNat (.pointer none),λ_=>0,λi=>if i=Z.heap.size then 0 else if i=p then 1 else if i=b then 2 else 3,λ_ _=>False⟩,
  ?_,y.below j,?_,by simp[f],λc hc=>?_,λc k E=>?_,⟨by simp[sB],.inl ⟨rfl,rfl⟩⟩,⟨by simp[sB],.inl ⟨rfl,rfl⟩⟩,λi hi=>hi,⟨⟨hs,by omega⟩,jP rfl⟩,⟨⟨z.1,by dsimp only;omega⟩,?_⟩,⟨⟨z.2.1,by dsimp only;omega⟩,?_⟩,⟨⟨z.2.2,by dsimp only;omega⟩,?_⟩,λi e=>(by cases e),λi e=>(by cases e),λc i e=>e.elim⟩
 .rw[f];exact r
 .have h1:=G.below j;rw[z6e]at h1;exact h1
 .rw[q];show (List.replicate s.c.toNat (Value.pointer none))[c]?=some (.pointer none);rw[List.getElem?_replicate,jP (by omega)]
 .rw[q]at E;cases E
 .show (if p=Z.heap.size then 0 else if p=p then 1 else if p=b then 2 else 3)=1;rw[jN (by omega),jP rfl]
 .show (if b=Z.heap.size then 0 else if b=p then 1 else if b=b then 2 else 3)=2;rw[jN (by omega),jN (λe=>C e.symm),jP rfl]
 show (if lb=Z.heap.size then 0 else if lb=p then 1 else if lb=b then 2 else 3)=3;rw[jN (by omega),jN o.1,jN o.2]
theorem zzx(s:Sh)(W:World)(U:mayB s.p s.c s.m=true):
  Calls Tryz.prog 41 #[.agg #[s.p,s.c,s.m]] W λe w'=>Below W.heap.size W w'/\∃g x,e=.returned (.tuple #[.pointer (some ⟨g,0,.none⟩),.int .i64 0])/\WdP W.heap.size (λi=>W.heap.size<=i/\i<w'.heap.size) w' g s (sB s) x:=by
 have D:=λY=>BC s.p s.c s.m Y;rw[U]at D;have hb:=JA.1 U;have hT:=(MV U).2;have j:=λZ p b lb=>z0c (W:=W) (Z:=Z) (p:=p) (b:=b) (lb:=lb) U;obtain⟨sp,sc,l⟩:=s;dsimp only at*;obtain⟨n,rfl⟩:∃n:Nat,sc=(n:Int):=⟨sc.toNat,by omega⟩;rw[Int.toNat_natCast]at j;have E:=λY=>pW sp (n:Int) l Y;obtain⟨N,hN,R⟩:∃N:Nat,xB sp (n:Int) l=(N:Int)/\N<=2000:=⟨(xB sp (n:Int) l).toNat,by omega,by omega⟩;rw[hN]at E j;rw[Int.toNat_natCast]at j;have J:=λY=>z7s N R Y;have b7:=z8e n (by omega);replace D:=hd' D;replace E:=hd' E;replace J:=hd' J;replace j:=hd' j;have b8:(n:Int)<=12:=by omega
 have hH:=jA W (.cells #[sp,.int .i64 (n:Int),l] 23);have t0:aA (W.alloc (.cells #[sp,.int .i64 (n:Int),l] 23)) W.heap.size #[sp,.int .i64 (n:Int),l] 23:=hH;have t1:=t0.alloc (.cells #[sp,.int .i64 (n:Int),l] 23);have z:Below W.heap.size W ((W.alloc (.cells #[sp,.int .i64 (n:Int),l] 23)).alloc (.cells #[sp,.int .i64 (n:Int),l] 23)):=by go_grown
 clear U hb hT hN R hH t0;go_in;go_upto_region 3 with(first|(go_at_call 86;refine(D _).mono ?_;rintro r w1 ⟨rfl,b2⟩;obtain rfl:=b2.symm));generalize (W.alloc (.cells #[sp,.int .i64 (n:Int),l] 23)).alloc (.cells #[sp,.int .i64 (n:Int),l] 23)=X at*;have b4:=z.size;obtain⟨H,hH,O⟩:=hidv W.heap.size;rw[<-O]at t1|-;clear O;have lH:=t1.lt;have y:∀Y,aA Y H #[sp,.int .i64 (n:Int),l] 23->Y.cell? ⟨H,0,.none⟩=some (.int .i64 sp)/\Y.cell? ⟨H,1,.none⟩=some (.int .i64 (n:Int))/\Y.cell? ⟨H,2,.none⟩=some (.int .i64 l):=λY h=>⟨h.cell 0,h.cell 1,h.cell 2⟩;replace y:=hd' y
 go_region_held3 (λY=>Y.cell? ⟨H,0,.none⟩=some (.int .i64 sp)/\Y.cell? ⟨H,1,.none⟩=some (.int .i64 (n:Int))/\Y.cell? ⟨H,2,.none⟩=some (.int .i64 l))
  (first|exact y _ t1.drew|exact y _ (t1.drew.alloc _)|exact y _ ((t5.alloc _).alloc _)|exact y _ (t5.alloc _)|exact y _ t5|exact y _ (t4.alloc _)|exact y _ t4)
  (first|(go_at_call 88;refine(E _).mono ?_;rintro r L ⟨rfl,G⟩;have M:Below X.heap.size X L:=(by first|exact qA br.drew G|exact qA (br.drew.alloc lr _) G);have t4:=t1.below M;try (have T:aA L X.heap.size (madeCells #[.pointer none] n) 57:=aA.below (jA X.drew _) G))|(go_at_call 87;refine(J _).mono ?_;rintro r o ⟨p,b,rfl,q,b0,S,C⟩;have V:Below X.heap.size X o:=(by first|exact qA M C|exact qA (M.alloc M.size _) C);have t5:=t1.below V;(try (have I:aA o X.heap.size (madeCells #[.pointer none] n) 57:=aA.below T C));(try (have I:aA o L.heap.size (madeCells #[.pointer none] n) 57:=aA.below (jA L _) C))))
 .have b1:=M.size;have b6:=q.ltp;have b5:=q.ltb;have ha:=(Below.refl o.heap.size o).alloc lr (.cells (madeCells #[.pointer none] n) 57);obtain⟨f1,x,f2⟩:=j (o.alloc (.cells (madeCells #[.pointer none] n) 57)) p b o.heap.size ⟨by omega,by omega,by omega⟩ ⟨by omega,by omega⟩ (q.below ha) (jA o _) (qA (qA z V) ha);have hz:(o.alloc (.cells (madeCells #[.pointer none] n) 57)).heap.size=o.heap.size+1:=by simp
  rw[hz]at f2;go_wp2_with fail;go_returns;exact⟨f1,_,x,rfl,f2⟩
 .have b1:=M.size;have hz:(L.alloc (.cells (madeCells #[.pointer none] n) 57)).heap.size=L.heap.size+1:=by simp
  rw[hz]at b0 S;obtain⟨f1,x,f2⟩:=j o p b L.heap.size ⟨by omega,by omega,by omega⟩ ⟨by omega,by omega⟩ q I (qA z V);go_wp2_with fail;go_returns;exact⟨f1,_,x,rfl,f2⟩
 have b3:=T.lt;obtain⟨f1,x,f2⟩:=j o p b X.heap.size ⟨by omega,by omega,by omega⟩ ⟨by omega,by omega⟩ q I (qA z V);go_wp2_with fail;go_returns;exact⟨f1,_,x,rfl,f2⟩
theorem z8i(s:Sh)(W:World)(l:¬mayB s.p s.c s.m=true):
  Calls Tryz.prog 41 #[.agg #[s.p,s.c,s.m]] W λe w'=>Below W.heap.size W w'/\e=.returned (.tuple #[.pointer none,.int .i64 1]):=by
 have b:=λY=>BC s.p s.c s.m Y;have i:mayB s.p s.c s.m=false:=by simpa using l
 rw[i]at b;obtain⟨sp,o,q⟩:=s;dsimp only at*;replace b:=hd' b;clear l i;go_in;go_wp2_with (first|(go_at_call 86;refine(b _).mono ?_;rintro r t ⟨rfl,j⟩;obtain rfl:=j.symm));go_returns;exact⟨by go_grown,rfl⟩
theorem YN(s:Sh)(i:mayB s.p s.c s.m=true)(w:World):
  Calls Tryz.prog 39 #[.agg #[s.p,s.c,s.m]] w λe w'=>e=.returned (.int .i64 (GA s:Int))/\Below w.heap.size w w':=by
 have hb:=JA.1 i;have b:=λW=>BC s.p s.c s.m W;rw[i]at b;have j:((GA s:Nat):Int)=110*s.p+4*s.m+60:=by unfold GA;omega
 rw[j];clear j;obtain⟨p,c,m⟩:=s;dsimp only at b hb|-;have l:=wrp (110*p);have o:=wrp (4*m);have q:=wrp (110*p+4*m);have r:=wrp (110*p+4*m+60);replace b:=hd' b;clear i hb;go_in;go_wp2_with (go_at_call 86;refine(b _).mono ?_;rintro e l ⟨rfl,rfl⟩);go_ret;exact⟨rfl,by go_grown⟩
section

variable {B:Nat}{F:Nat->Prop}{W W1 W2:World}{g:Nat}{s:Sh}{d d2:Wd}{x:Wx}{n:Nat}

theorem WdTq.below{R:(Nat->Nat)->Prop}(h:WdTq R B F W W1 g s d)(j:B<=W.heap.size)(b:∀i,F i->B<=i/\i<W.heap.size)(hb:Below W1.heap.size W1 W2):WdTq R B F W W2 g s d:=by
 obtain⟨⟨x,h1,f⟩,h2,h3⟩:=h;have hs:=hb.size;refine⟨⟨x,(h1.below hb).weak (λi hi=>?_) (λi hi=>?_),f⟩,Only.trans (F:=F) h2 (Only.of_below (F:=λ_=>False) hb) (λ_ _ e=>e.elim),by omega⟩
 .rcases hi with hi|hi
  .exact .inl hi
  exact .inr ⟨hi.1,by omega⟩
 have:=h2.size;rcases hi with hi|hi
 .exact⟨(b i hi).1,by have:=(b i hi).2;omega⟩
 exact⟨by omega,hi.2⟩
end

end

end Go.Proofs.YtkilokkopbajkaaGreat
