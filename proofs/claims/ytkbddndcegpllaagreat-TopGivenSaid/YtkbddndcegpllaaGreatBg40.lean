/- Texts bound together: LwC WldM WldN WldW WldX. -/
import Derived.Test.YtkbddndcegpllaaGreatBg39

set_option linter.all false
set_option maxHeartbeats 4000000
set_option maxRecDepth 100000
namespace Go.Proofs.YtkbddndcegpllaaGreat

section

open Go.RowKit

attribute [local go_sem ↓] Go.wp_at_zero Go.wp_at_succ

structure CW (B:Nat) (F:Nat->Prop) (W:World) (q p b:Nat) (s:Sh) (k:Kl) (m:Mem):Prop where
 kl:KlO F W q s k
 wd:zaq W p b m
 fp:¬ F p
 fb:¬ F b
 lo:∀ i,F i->B<=i
 lp:B<=p
 lb:B<=b
 ok:klOk s k
 fi:Fits s m
section

variable {B:Nat} {F:Nat->Prop} {W W':World} {q p b:Nat} {s:Sh} {k:Kl} {m:Mem}

theorem CW.below(h:CW B F W q p b s k m)(hb:Below W.heap.size W W'):CW B F W' q p b s k m:=⟨h.kl.below hb,h.wd.below hb,h.fp,h.fb,h.lo,h.lp,h.lb,h.ok,h.fi⟩
theorem CW.only{G:Nat->Prop}(h:CW B F W q p b s k m)(j:Only G W W')(f:∀ i,G i->¬ F i/\i≠p/\i≠b):CW B F W' q p b s k m:=
 ⟨h.kl.only j (fun i hi l=>(f i l).1 hi),h.wd.only j (fun e=>(f p e).2.1 rfl) (fun e=>(f b e).2.2 rfl),h.fp,h.fb,h.lo,h.lp,h.lb,h.ok,h.fi⟩
theorem zif{p:Nat}(h:¬ F p)(f:p<W.heap.size):¬ grow F W W' p:=fun e=>by
 rcases e with e|e
 ·exact h e
 ·omega
structure z2r (B:Nat) (F:Nat->Prop) (W W':World) (q p b:Nat) (s:Sh) (k:Kl) (m:Mem) (r:Ending):Prop where
 ret:∃ v,r= .returned (.tuple #[v,.int .i64 (k.step s m).2.2.2])/\W'.ownsRow W.heap.size 66 8 v (k.step s m).2.2.1.length ((k.step s m).2.2.1.flatMap fun e=> e.cells.toList)
 cw:CW B (grow F W W') W' q p b s (k.step s m).1 (k.step s m).2.1
 only:Only (fun i=> F i\/i=p\/i=b) W W'
 below:Below B W W'
theorem ybc(h:CW B F W q p b s k m)(t:B<=W.heap.size)(hs:m.st<1000000000):
  Calls Tryz.prog 110 #[.pointer (some ⟨q,0,.none⟩),.pointer (some ⟨p,0,.none⟩)] W fun r w'=>z2r B F W w' q p b s k m r:=by
 have z:=h.fi.may;have hb:=h.fi.bd;have key:∀ r w',ztp F q p b W w' r s k m->klOk s (k.step s m).1->Fits s (k.step s m).2.1->z2r B F W w' q p b s k m r:=fun r w' hS l y=>by
  refine⟨hS.ret,⟨hS.kl,hS.wds,zif h.fp h.wd.ltp,zif h.fb h.wd.ltb,fun i hi=>?_,h.lp,h.lb,l,y⟩,hS.only,hS.only.below t (fun i hi=>?_)⟩
  ·rcases hi with hi|hi
   ·exact h.lo i hi
   omega
  rcases hi with hi|rfl|rfl
  ·exact h.lo i hi
  ·exact h.lp
  exact h.lb
 rcases hj:k.job with _|j
 ·refine(zuq h.kl h.wd hj).mono fun r w' hS=>key r w' hS ?_ ?_
  ·have e:k.step s m=(k,m, [],2):=by unfold Kl.step;rw[hj]
   rw[e];exact h.ok
  have e:k.step s m=(k,m, [],2):=by unfold Kl.step;rw[hj]
  rw[e];exact h.fi
 have l:=zsh h.ok hj h.fi h.wd.fit;have o:=z8x h.ok (by omega) hj;refine(zty h.kl h.wd h.fp h.fb h.fi h.wd.fit hj (h.ok.jb j hj).1 (h.ok.jb j hj).2.1 h.ok.cl ⟨h.ok.st,by omega⟩ hs).mono fun r w' hS=>key r w' hS l.2 (l.1.fits h.fi)
structure ygo (B:Nat) (F:Nat->Prop) (W W':World) (q p b:Nat) (s:Sh) (k:Kl) (m:Mem) (o:Op3) (r:Ending):Prop where
 ret:∃ v,r= .returned (.tuple #[v,.int .i64 (k.invoke s o).2.2])/\W'.ownsRow W.heap.size 66 8 v (k.invoke s o).2.1.length ((k.invoke s o).2.1.flatMap fun e=> e.cells.toList)
 cw:CW B (grow F W W') W' q p b s (k.invoke s o).1 m
 only:Only F W W'
 below:Below B W W'
theorem yfi(o:Op3)(h:CW B F W q p b s k m)(j:B<=W.heap.size):
  Calls Tryz.prog 60 #[.pointer (some ⟨q,0,.none⟩),.agg #[.int .i64 o.k,.int .i64 o.a,.int .i64 o.n]] W fun r w'=>ygo B F W w' q p b s k m o r:=by
 refine(z3l (o:=o) h.kl).mono fun r w' hS=>?_;refine⟨hS.ret,⟨hS.kl,h.wd.only hS.only h.fp h.fb,zif h.fp h.wd.ltp,zif h.fb h.wd.ltb,fun i hi=>?_,h.lp,h.lb,zwi o h.fi.may h.ok,h.fi⟩,hS.only,hS.only.below j h.lo⟩;rcases hi with hi|hi
 ·exact h.lo i hi
 omega
end

theorem zut{w:World}{B:Nat}{v:Value}{es:List Ev}(h:w.ownsRow B 66 8 v es.length (es.flatMap fun e=>e.cells.toList)):RdE w v es:=RdS.zew h
end

section

open Go.RowKit

attribute [local go_sem ↓] Go.wp_at_zero Go.wp_at_succ

def Acc.cells (a:Acc):Array Value:= #[.int .i64 a.c,.int .i64 a.k,.int .i64 a.a,.int .u64 a.was,.int .u64 a.put,.bool a.ok]
def zfd (s:Sh) (p lb n:Nat) (tv sv:Value):Array Value:= #[.int .i64 s.p,.int .i64 s.c,.int .i64 s.m,.pointer (some ⟨p,0,.none⟩),.slice (some ⟨lb,0,.none⟩) n n,tv,sv]
def ptrK (o:Option Kl) (q:Nat):Value:=match o with
 | none=> .pointer none
 | some _=> .pointer (some ⟨q,0,.none⟩)
structure Wx where
 p:Nat
 b:Nat
 lb:Nat
 tv:Value
 sv:Value
 ps:List Value
 qs:Nat->Nat
 ow:Nat->Nat
 Fc:Nat->Nat->Prop
structure WdP (B:Nat) (F:Nat->Prop) (W:World) (g:Nat) (s:Sh) (d:Wd) (x:Wx):Prop where
 top:zaa W g (zfd s x.p x.lb d.l.length x.tv x.sv) 117
 wds:zaq W x.p x.b d.m
 lst:zaa W x.lb x.ps.toArray 61
 pl:x.ps.length=d.l.length
 pe:∀ c,c < d.l.length->x.ps[c]?=some (ptrK (d.l.getD c none) (x.qs c))
 cl:∀ c k,d.l.getD c none=some k->KlO (x.Fc c) W (x.qs c) s k
 tr:W.ownsRow B 66 8 x.tv d.tr.length (d.tr.flatMap fun e=> e.cells.toList)
 lg:W.ownsRow B 172 6 x.sv d.lg.length (d.lg.flatMap fun a=> a.cells.toList)
 lt:∀ i,F i->B<=i/\i < W.heap.size
 fg:F g/\x.ow g=0
 fp:F x.p/\x.ow x.p=1
 fb:F x.b/\x.ow x.b=2
 fl:F x.lb/\x.ow x.lb=3
 ft:∀ i,x.tv.ownBlock=some i->F i/\x.ow i=4
 fs:∀ i,x.sv.ownBlock=some i->F i/\x.ow i=5
 fc:∀ c i,x.Fc c i->F i/\x.ow i=c + 6
section

variable {B:Nat} {F:Nat->Prop} {W W':World} {g:Nat} {s:Sh} {d:Wd} {x:Wx}

theorem WdP.ne(_h:WdP B F W g s d x){i j:Nat}{m n:Nat}(hi:x.ow i=m)(f:x.ow j=n)(l:m≠n):i≠j:=fun e=>l (by rw[<-hi,<- f,e])
theorem WdP.only{G:Nat->Prop}(h:WdP B F W g s d x)(j:Only G W W')(f:∀ i,F i->¬ G i):WdP B F W' g s d x:=
 ⟨h.top.only j (f _ h.fg.1),h.wds.only j (f _ h.fp.1) (f _ h.fb.1),h.lst.only j (f _ h.fl.1),h.pl,h.pe,fun c k l=>(h.cl c k l).only j (fun i hi=>f i (h.fc c i hi).1),
  zas h.tr fun i hi=>j.block i (h.tr.lt i hi).2 (f i (h.ft i hi).1),zas h.lg fun i hi=>j.block i (h.lg.lt i hi).2 (f i (h.fs i hi).1),fun i hi=>⟨(h.lt i hi).1,Nat.lt_of_lt_of_le (h.lt i hi).2 j.size⟩,
  h.fg,h.fp,h.fb,h.fl,h.ft,h.fs,h.fc⟩
theorem WdP.below(h:WdP B F W g s d x)(hb:Below W.heap.size W W'):WdP B F W' g s d x:=h.only (Only.of_below (F:=fun _=>False) hb) (fun _ _ e=>e)
theorem WdP.grows(h:WdP B F W g s d x)(j:B<=W.heap.size)(hb:Below W.heap.size W W'):WdP B (grow F W W') W' g s d x:=by
 have f:=h.below hb;refine⟨f.top,f.wds,f.lst,f.pl,f.pe,f.cl,f.tr,f.lg,fun i hi=>?_,⟨.inl h.fg.1,h.fg.2⟩,⟨.inl h.fp.1,h.fp.2⟩,⟨.inl h.fb.1,h.fb.2⟩,⟨.inl h.fl.1,h.fl.2⟩,fun i hi=>⟨.inl (h.ft i hi).1,(h.ft i hi).2⟩,fun i hi=>⟨.inl (h.fs i hi).1,(h.fs i hi).2⟩,fun c i hi=>⟨.inl (h.fc c i hi).1,(h.fc c i hi).2⟩⟩;rcases hi with hi|hi
 ·exact f.lt i hi
 exact⟨by omega,hi.2⟩
end

def Wx.told (x:Wx) (tv:Value) (N:Nat):Wx:= { x with tv:=tv,ow:=fun i=> if N<=i then 4 else x.ow i }
theorem WdP.told{B:Nat}{F:Nat->Prop}{W W' W2:World}{g:Nat}{s:Sh}{d:Wd}{x:Wx}{v':Value}{es:List Ev}(h:WdP B F W g s d x)(S:B<=W.heap.size)(L:W.grownBy W' x.tv.ownBlock)
  (I:W'.ownsRow B 66 8 v' (d.tr.length+es.length) ((d.tr.flatMap fun e=>e.cells.toList)++es.flatMap fun e=>e.cells.toList))
  (o:v'.ownBlock=x.tv.ownBlock\/v'.ownBlock=some W.heap.size) (y:W2=W'.setCell ⟨g,5,.none⟩ v'):
  WdP B (grow F W W2) W2 g s {d with tr:=d.tr++es} (x.told v' W.heap.size)/\Only F W W2:=by
 have H:W2.heap.size=W'.heap.size:=by rw[y];simp[World.setCell]
 have N:∀ i,x.tv.ownBlock=some i->F i:=fun i hi=>(h.ft i hi).1;have D:Only (fun i=>x.ow i=4/\F i) W W':=(Only.refl _ W).grown L fun k r=>.inl ⟨(h.ft k r).2,(h.ft k r).1⟩;have j:Only (fun i=>(x.ow i=4/\F i)\/i=g) W W2:=by rw[y];exact Only.setCell (Only.weak D fun k r=>.inl r) (p:=⟨g,5,.none⟩) (.inl (.inr rfl)) v'
 have C:∀ i,F i->¬ W.heap.size<=i:=fun i hi=>by have:=(h.lt i hi).2;omega
 have f:∀ i,F i->(x.told v' W.heap.size).ow i=x.ow i:=fun i hi=>if_neg (C i hi);have G:∀ i,x.ow i≠4->i≠g->¬ ((x.ow i=4/\F i)\/i=g):=fun i J y e=>e.elim (fun e=>J e.1) y;have z:∀ i,x.ow i≠0->i≠g:=fun i hi e=>hi (e ▸ h.fg.2);have own:∀ i m,x.ow i=m->m≠4->m≠0->¬ ((x.ow i=4/\F i)\/i=g):=fun i m T R O=>G i (by omega) (z i (by omega))
 refine⟨⟨?_,h.wds.only j (own _ 1 h.fp.2 (by decide) (by decide)) (own _ 2 h.fb.2 (by decide) (by decide)),h.lst.only j (own _ 3 h.fl.2 (by decide) (by decide)),h.pl,h.pe,fun c k r=>(h.cl c k r).only j (fun i hi=>own i (c+6) (h.fc c i hi).2 (by omega) (by omega)),
  ?_,zas h.lg fun i hi=>j.block i (h.lg.lt i hi).2 (own i 5 (h.fs i hi).2 (by decide) (by decide)),fun i hi=>?_,⟨.inl h.fg.1,(f _ h.fg.1).trans h.fg.2⟩,⟨.inl h.fp.1,(f _ h.fp.1).trans h.fp.2⟩,⟨.inl h.fb.1,(f _ h.fb.1).trans h.fb.2⟩,⟨.inl h.fl.1,(f _ h.fl.1).trans h.fl.2⟩,fun i hi=>?_,
  fun i hi=>⟨.inl (h.fs i hi).1,(f _ (h.fs i hi).1).trans (h.fs i hi).2⟩,fun c i hi=>⟨.inl (h.fc c i hi).1,(f _ (h.fc c i hi).1).trans (h.fc c i hi).2⟩⟩,Only.weak j fun k r=>r.elim (fun e=>e.2) (fun e=>e ▸ h.fg.1)⟩
 ·have M:zaa W' g (zfd s x.p x.lb d.l.length x.tv x.sv) 117:=h.top.only D (fun e=>by have:=h.fg.2;omega);rw[y];exact M.set 5 v'
 ·rw[y];refine zas (w:=W') ?_ fun i hi=>Below.heap_setCell _ ⟨g,5,.none⟩ _ i ?_
  ·simpa[Wx.told] using I
  rcases o with o|o
  ·rw[show (x.told v' W.heap.size).tv=v' from rfl,o]at hi;have:=(h.ft i hi).2;exact z i (by omega)
  rw[show (x.told v' W.heap.size).tv=v' from rfl,o]at hi;injection hi with hi;have:=(h.lt _ h.fg.1).2;show i≠g;omega
 ·rcases hi with hi|hi
  ·exact⟨(h.lt i hi).1,by have:=(h.lt i hi).2;have:=j.size;omega⟩
  exact⟨by omega,hi.2⟩
 rw[show (x.told v' W.heap.size).tv=v' from rfl]at hi;rcases o with o|o
 ·rw[o]at hi;exact⟨.inl (h.ft i hi).1,(f _ (h.ft i hi).1).trans (h.ft i hi).2⟩
 have E:=I.lt i hi;rw[o]at hi;injection hi with hi;subst hi;exact⟨.inr ⟨Nat.le_refl _,by rw[H];exact E.2⟩,if_pos lr⟩
theorem z04{B:Nat}{F:Nat->Prop}{W:World}{g:Nat}{s:Sh}{d:Wd}{x:Wx}(h:WdP B F W g s d x)(O:B<=W.heap.size)(es:List Ev)(v:Value)(S:RdE W v es)(hl:d.tr.length+es.length<=100000000):
  Calls Tryz.prog 61 #[.pointer (some ⟨g,0,.none⟩),v] W fun e w'=>e= .returned (.tuple #[])/\∃ U,WdP B (grow F W w') w' g s {d with tr:=d.tr++es} U/\Only F W w'/\U.qs=x.qs:=by
 have x5:=ce x.tv (h.top.cell 5);have lg:g<W.heap.size:=h.top.lt;have fg:=zax h.top;have l:=h.tr;obtain⟨i0,J,L,M,N⟩:=info_parts zdb;have y:∀ u ∈ es.flatMap (fun e=>e.cells.toList),u.oneCell'=true:=fun u hu=>by obtain⟨e,_,R⟩:=List.mem_flatMap.1 hu;simp only[Ev.cells,List.mem_cons,List.not_mem_nil,or_false]at R;rcases R with rfl|rfl|rfl|rfl|rfl|rfl|rfl|rfl<;>rfl
 have i:=fun W' W2 v'=>h.told (W':=W') (W2:=W2) (v':=v') (es:=es) O;obtain⟨G,H,z,h0⟩:=RdS.zew l;obtain⟨V,X,Y,h1⟩:=id S;clear h0 h1;subst Y;rw[z]at l x5;have r:∀ W':World,W.grownBy W' x.tv.ownBlock->W'.heap[g]?=W.heap[g]?:=fun W' hg=>hg.block g lg (fun e=>by have:=(h.ft g e.symm).2;have:=h.fg.2;omega);rw[z]at i r;replace i:=hd' i;replace r:=hd' r;replace z:=hd' z;have D:=hd' h.top;clear h;go_in;go_wp2_with (first|(refine zay rfl (.tmp 8) (.tmp 9) 63 rfl B 66 i0 _ 8 64 Tryz.underlying63 J L M N rfl (by omega) _ d.tr.length _ rfl l _ es.length _ rfl S y (by simp only[maxLen];omega) (by omega) O ?_;intro v7 E o j C;obtain⟨a7,c7,Z,_⟩:=RdS.zew o;subst Z;have I:zaa E g _ _:=(r.out E j).trans D.out;have b0:=zax I;have l7:g<E.heap.size:=I.lt;have y5:E.cell? ⟨g,5,.none⟩=some (.slice G d.tr.length H):=(I.cell 5).trans (congrArg some z.out)));have T:=i.out E _ _ j o C rfl;refine bodyPost_end (results_none rfl _ _ _) rfl ⟨rfl,_,T.1,T.2,rfl⟩
end

section

open Go.RowKit

section

variable {B:Nat} {F:Nat->Prop} {W W':World} {g:Nat} {s:Sh} {d:Wd} {x:Wx}

theorem WdP.put{j:Mem}(h:WdP B F W g s d x)(f:Only (fun i=>i=x.p\/i=x.b) W W')(o:zaq W' x.p x.b j):WdP B F W' g s {d with m:=j} x:=by
 have own:∀ i n,x.ow i=n->n≠1->n≠2->¬ (i=x.p\/i=x.b):=fun i n hi r t e=>by
  rcases e with rfl|rfl
  ·have:=h.fp.2;omega
  have:=h.fb.2;omega
 exact⟨h.top.only f (own _ 0 h.fg.2 (by decide) (by decide)),o,h.lst.only f (own _ 3 h.fl.2 (by decide) (by decide)),h.pl,h.pe,fun c k l=>(h.cl c k l).only f (fun i hi=>own i (c+6) (h.fc c i hi).2 (by omega) (by omega)),
  zas h.tr fun i hi=>f.block i (h.tr.lt i hi).2 (own i 4 (h.ft i hi).2 (by decide) (by decide)),zas h.lg fun i hi=>f.block i (h.lg.lt i hi).2 (own i 5 (h.fs i hi).2 (by decide) (by decide)),fun i hi=>⟨(h.lt i hi).1,Nat.lt_of_lt_of_le (h.lt i hi).2 f.size⟩,
  h.fg,h.fp,h.fb,h.fl,h.ft,h.fs,h.fc⟩
def Wx.mine (x:Wx) (c N N':Nat):Wx:= { x with ow:=fun i=> if N<=i then c + 6 else x.ow i,Fc:=fun c' i=> x.Fc c' i\/(c'=c/\N<=i/\i < N') }
theorem zjv{l:List (Option Kl)}{c i:Nat}{k:Kl}(hc:c<l.length):(l.set c (some k)).getD i none=if i=c then some k else l.getD i none:=by
 rw[zme _ _ _ _ hc];by_cases e:c=i
 ·subst e;simp
 rw[if_neg e,if_neg (fun h=>e h.symm)]
theorem WdP.stepped{c:Nat}{k y:Kl}{H:Mem}(h:WdP B F W g s d x)(N:B<=W.heap.size)(I:d.l.getD c none=some k)(hc:c<d.l.length)
  (E:KlO (grow (x.Fc c) W W') W' (x.qs c) s y) (J:zaq W' x.p x.b H) (t:Only (fun i=>x.Fc c i\/i=x.p\/i=x.b) W W'):
  WdP B (grow F W W') W' g s {d with m:=H,l:=d.l.set c (some y)} (x.mine c W.heap.size W'.heap.size)/\Only F W W':=by
 have own:∀ i n,x.ow i=n->n≠1->n≠2->n≠c+6->¬ (x.Fc c i\/i=x.p\/i=x.b):=fun i n hi D L M e=>by
  rcases e with e|rfl|rfl
  ·have:=(h.fc c i e).2;omega
  ·have:=h.fp.2;omega
  have:=h.fb.2;omega
 have C:∀ i,F i->¬ W.heap.size<=i:=fun i hi=>by have:=(h.lt i hi).2;omega
 have o:∀ i,F i->(x.mine c W.heap.size W'.heap.size).ow i=x.ow i:=fun i hi=>if_neg (C i hi)
 refine⟨⟨?_,J,h.lst.only t (own _ 3 h.fl.2 (by decide) (by decide) (by omega)),by simpa[Wx.mine] using h.pl,fun j r=>?_,fun j G f=>?_,
  zas h.tr fun i hi=>t.block i (h.tr.lt i hi).2 (own i 4 (h.ft i hi).2 (by decide) (by decide) (by omega)),zas h.lg fun i hi=>t.block i (h.lg.lt i hi).2 (own i 5 (h.fs i hi).2 (by decide) (by decide) (by omega)),fun i hi=>?_,
  ⟨.inl h.fg.1,(o _ h.fg.1).trans h.fg.2⟩,⟨.inl h.fp.1,(o _ h.fp.1).trans h.fp.2⟩,⟨.inl h.fb.1,(o _ h.fb.1).trans h.fb.2⟩,⟨.inl h.fl.1,(o _ h.fl.1).trans h.fl.2⟩,fun i hi=>⟨.inl (h.ft i hi).1,(o _ (h.ft i hi).1).trans (h.ft i hi).2⟩,
  fun i hi=>⟨.inl (h.fs i hi).1,(o _ (h.fs i hi).1).trans (h.fs i hi).2⟩,fun j i hi=>?_⟩,Only.weak t fun i hi=>?_⟩
 ·have:=h.top.only t (own _ 0 h.fg.2 (by decide) (by decide) (by omega));show zaa W' g (zfd s x.p x.lb (d.l.set c (some y)).length x.tv x.sv) _;rw[List.length_set];exact this
 ·have r:j<(d.l.set c (some y)).length:=r;rw[List.length_set]at r;show x.ps[j]?=some (ptrK ((d.l.set c (some y)).getD j none) (x.qs j));rw[zjv hc,h.pe j r];split
  ·rename_i e;subst e;rw[I];rfl
  rfl
 ·have z:(d.l.set c (some y)).getD j none=some G:=f;clear f;have f:=z;clear z;rw[zjv hc]at f;show KlO (fun i=>x.Fc j i\/(j=c/\W.heap.size<=i/\i<W'.heap.size)) W' (x.qs j) s G;split at f
  ·rename_i e;subst e;injection f with f;subst f
   exact E.weak (fun i hi=>hi.elim .inl fun hi=>.inr ⟨rfl,hi⟩) (fun i hi=>by
    rcases hi with hi|hi
    ·have:=(h.lt i (h.fc _ i hi).1).2;have:=t.size;omega
    ·exact hi.2.2)
  rename_i e;have D:=(h.cl j G f).only t (fun i hi=>own i (j+6) (h.fc j i hi).2 (by omega) (by omega) (by omega))
  exact D.weak (fun i hi=>.inl hi) (fun i hi=>by
   rcases hi with hi|hi
   ·exact D.lt i hi
   ·exact absurd hi.1 e)
 ·rcases hi with hi|hi
  ·exact⟨(h.lt i hi).1,Nat.lt_of_lt_of_le (h.lt i hi).2 t.size⟩
  exact⟨by omega,hi.2⟩
 ·rcases hi with hi|⟨rfl,hi⟩
  ·exact⟨.inl (h.fc j i hi).1,(o _ (h.fc j i hi).1).trans (h.fc j i hi).2⟩
  exact⟨.inr hi,if_pos hi.1⟩
 rcases hi with hi|rfl|rfl
 ·exact(h.fc c i hi).1
 ·exact h.fp.1
 exact h.fb.1
theorem WdP.cw{n:Nat}{c:Nat}{k:Kl}(h:WdP B F W g s d x)(j:d.l.getD c none=some k)(o:klOk s k)(f:Fits s d.m):CW B (x.Fc c) W (x.qs c) x.p x.b s k d.m:=
 ⟨h.cl c k j,h.wds,fun e=>by have:=(h.fc c _ e).2;have:=h.fp.2;omega,fun e=>by have:=(h.fc c _ e).2;have:=h.fb.2;omega,fun i hi=>(h.lt i (h.fc c i hi).1).1,(h.lt _ h.fp.1).1,(h.lt _ h.fb.1).1,o,f⟩
theorem WdP.place{c q:Nat}{o:Option Kl}{Fq:Nat->Prop}(h:WdP B F W g s d x)(S:B<=W.heap.size)(hc:c<d.l.length)(hb:Below W.heap.size W W')(R:∀ k,o=some k->KlO Fq W' q s k)(D:∀ i,Fq i->W.heap.size<=i/\i<W'.heap.size){W2:World}(H:W2=W'.setCell ⟨x.lb,c,.none⟩ (ptrK o q)):
  ∃ N,WdP B (grow F W W2) W2 g s {d with l:=d.l.set c o} N/\Only F W W2/\N.p=x.p/\N.b=x.b:=by
 have M:W2.heap.size=W'.heap.size:=by rw[H];simp[World.setCell]
 have hs:=hb.size;have z:Only (fun i=>i=x.lb) W W2:=by rw[H];exact(Only.of_below (F:=fun i=>i=x.lb) hb).setCell (p:=⟨x.lb,c,.none⟩) (.inl rfl) _
 have own:∀ i n,x.ow i=n->n≠3->¬ (i=x.lb):=fun i n hi I e=>by subst e;have:=h.fl.2;omega
 have j:∀ i,F i->¬ W.heap.size<=i:=fun i hi=>by have:=(h.lt i hi).2;omega
 refine⟨{x with ps:=x.ps.set c (ptrK o q),qs:=fun f=>if f=c then q else x.qs f,ow:=fun i=>if W.heap.size<=i then c+6 else x.ow i,Fc:=fun f i=>if f=c then Fq i else x.Fc f i},
  ⟨?_,h.wds.only z (own _ 1 h.fp.2 (by decide)) (own _ 2 h.fb.2 (by decide)),?_,by simpa using h.pl,fun f y=>?_,fun f E r=>?_,
  zas h.tr fun i hi=>z.block i (h.tr.lt i hi).2 (own i 4 (h.ft i hi).2 (by decide)),zas h.lg fun i hi=>z.block i (h.lg.lt i hi).2 (own i 5 (h.fs i hi).2 (by decide)),fun i hi=>?_,
  ⟨.inl h.fg.1,(if_neg (j _ h.fg.1)).trans h.fg.2⟩,⟨.inl h.fp.1,(if_neg (j _ h.fp.1)).trans h.fp.2⟩,⟨.inl h.fb.1,(if_neg (j _ h.fb.1)).trans h.fb.2⟩,⟨.inl h.fl.1,(if_neg (j _ h.fl.1)).trans h.fl.2⟩,fun i hi=>⟨.inl (h.ft i hi).1,(if_neg (j _ (h.ft i hi).1)).trans (h.ft i hi).2⟩,
  fun i hi=>⟨.inl (h.fs i hi).1,(if_neg (j _ (h.fs i hi).1)).trans (h.fs i hi).2⟩,fun f i hi=>?_⟩,Only.weak z fun i hi=>by subst hi;exact h.fl.1,rfl,rfl⟩
 ·have:=h.top.only z (own _ 0 h.fg.2 (by decide));show zaa W2 g (zfd s x.p x.lb (d.l.set c o).length x.tv x.sv) _;rw[List.length_set];exact this
 ·have I:=(h.lst.below hb).set c (ptrK o q);rw[<-H]at I;refine I.cast ?_;simp
 ·have y:f<(d.l.set c o).length:=y;rw[List.length_set]at y;show (x.ps.set c (ptrK o q))[f]?=some (ptrK ((d.l.set c o).getD f none) (if f=c then q else x.qs f));rw[zme _ _ _ _ hc,List.getElem?_set];by_cases e:c=f
  ·subst e;rw[if_pos rfl,if_pos (by rw[h.pl];exact hc),if_pos rfl,if_pos rfl]
  rw[if_neg e,if_neg e,if_neg (fun h=>e h.symm)];exact h.pe f y
 ·have r:(d.l.set c o).getD f none=some E:=r;rw[zme _ _ _ _ hc]at r;show KlO (fun i=>if f=c then Fq i else x.Fc f i) W2 (if f=c then q else x.qs f) s E;by_cases e:c=f
  ·subst e;rw[if_pos rfl]at r;rw[if_pos rfl];have O:=R E r;have L:∀ i,Fq i->i≠x.lb:=fun i hi e=>by have:=(h.lt _ h.fl.1).2;have:=(D i hi).1;omega
   have C:KlO Fq W2 q s E:=by rw[H];exact O.only (G:=fun i=>i=x.lb) ((Only.refl (fun i=>i=x.lb) W').setCell (p:=⟨x.lb,c,.none⟩) (.inl rfl) _) L
   exact C.weak (fun i hi=>by rw[if_pos rfl];exact hi) (fun i hi=>by rw[if_pos rfl]at hi;exact C.lt i hi)
  rw[if_neg e]at r;rw[if_neg (fun h=>e h.symm)];have C:=(h.cl f E r).only z (fun i hi=>own i (f+6) (h.fc f i hi).2 (by omega));exact C.weak (fun i hi=>by rw[if_neg (fun h=>e h.symm)];exact hi) (fun i hi=>by rw[if_neg (fun h=>e h.symm)]at hi;exact C.lt i hi)
 ·rcases hi with hi|hi
  ·exact⟨(h.lt i hi).1,by have:=(h.lt i hi).2;omega⟩
  exact⟨by omega,hi.2⟩
 have t:if f=c then Fq i else x.Fc f i:=hi;clear hi;by_cases e:f=c
 ·subst e;rw[if_pos rfl]at t;have J:=D i t;exact⟨.inr ⟨J.1,by rw[M];exact J.2⟩,if_pos J.1⟩
 rw[if_neg e]at t;exact⟨.inl (h.fc f i t).1,(if_neg (j _ (h.fc f i t).1)).trans (h.fc f i t).2⟩
theorem grow_grow{W1 W2:World}(f:W.heap.size<=W1.heap.size)(j:W1.heap.size<=W2.heap.size)(i:Nat):grow (grow F W W1) W1 W2 i↔grow F W W2 i:=by
 unfold grow;constructor
 ·rintro((h|h)|h)
  ·exact .inl h
  ·exact .inr ⟨h.1,by omega⟩
  exact .inr ⟨by omega,h.2⟩
 rintro(h|h)
 ·exact .inl (.inl h)
 by_cases e:i<W1.heap.size
 ·exact .inl (.inr ⟨h.1,e⟩)
 exact .inr ⟨by omega,h.2⟩
theorem WdP.eqv{G:Nat->Prop}(h:WdP B F W g s d x)(e:∀ i,F i↔G i):WdP B G W g s d x:=by
 have:F=G:=funext fun i=>propext (e i);exact this ▸ h
end

end

section

open Go.RowKit

attribute [local go_sem ↓] Go.wp_at_zero Go.wp_at_succ

theorem z3c(p b:Nat)(m:Mem)(a:Int)(w:World)(h:zaq w p b m)(j:m.has a):
  Calls Tryz.prog 98 #[.pointer (some ⟨p,0,.none⟩),.int .i64 a] w fun e w'=>e= .returned (.int .u64 (m.get a))/\w'=w:=by
 have l:=hd' (zvd p b m a w h j);obtain⟨n,t,i⟩:=hidv m.ws.length;have z:w.cell? ⟨p,0,.none⟩=some (.slice (some ⟨b,0,.none⟩) n n):=by rw[i];exact zac h.blk 0
 have C:=h.cell j;have a0:(0:Int)<=a:=j.1;have a1:a<(n:Int):=by rw[i];exact j.2
 clear i h j;generalize m.get a=v at *;go_in;go_wp2_with (go_at_call 140;refine l.out.mono ?_;rintro r y ⟨rfl,o⟩;obtain rfl:=o.symm);go_returns;exact⟨rfl,rfl⟩
section

variable {B:Nat} {F:Nat->Prop} {W:World} {g:Nat} {s:Sh} {d:Wd} {x:Wx}

theorem zlc(h:WdP B F W g s d x)(I:Fits s d.m)(c kind:Int)(hc:0<=c/\c<s.c):
  Calls Tryz.prog 62 #[.pointer (some ⟨g,0,.none⟩),.int .i64 c,.int .i64 kind] W fun e w'=>e= .returned (.tuple #[])/\WdP B F w' g s {d with m:=d.m.put c (za8 kind 0)} x/\Only F W w':=by
 have y:=(I.status hc);have l:=fun Y=>zau s.p s.c s.m c Y;rw[y.1]at l;have o:=fun Y=>zgn kind 0 Y;have t:=fun Y (L:zaq Y x.p x.b d.m)=>z5o x.p x.b d.m c (za8 kind 0) Y L y.2 (zdz _ _);have j:=fun Y w' (hb:Below W.heap.size W Y) (C:zaq w' x.p x.b (d.m.put c (za8 kind 0))) (J:Only (fun k=>k=x.b) Y w')=>(⟨WdP.put (h.below hb) (Only.weak J fun i hi=>.inr hi) C,Only.trans (F:=F) (Only.of_below hb) J (fun i _ hi=>by subst hi;exact h.fb.1)⟩:WdP B F w' g s {d with m:=d.m.put c (za8 kind 0)} x/\Only F W w');obtain⟨c0,c1,c2⟩:=ci3 s.p s.c s.m h.top.cell;have c3:=ce (.pointer (some ⟨x.p,0,.none⟩)) (h.top.cell 3);have lg:g<W.heap.size:=h.top.lt;have C:=hd' h.wds;replace l:=hd' l;replace o:=hd' o;replace t:=hd' t;replace j:=hd' j;clear h I y;go_in;go_upto_region 0 with fail;refine zad 12 (by kernel_rfl) (by kernel_rfl) ?_;dsimp only[List.take,List.drop];repeat (go_big_quiet_step ((first|(go_at_call 57;exact zam (l.out _))|(go_at_call 117;exact zam (o.out _)))))
 refine wpQuiet_nil ?_;rintro _ ⟨G,rfl⟩;have H:=G.below;generalize G.w=X at *;change wpList _ _ _ _ _ X;have E:=C.out.below H;clear c0 c1 c2 c3;go_wp2_with (go_at_call 116;(with_reducible refine(t.out _ E).mono ?_);rintro r M ⟨rfl,D,z⟩);refine bodyPost_end (results_none rfl _ _ _) rfl ⟨rfl,j.out _ _ H D z⟩
def zrl (s:Sh) (d:Wd) (c:Int):Int:=if 0<=zae s.p s.c s.m c then d.stat c else 0
theorem zmv(h:WdP B F W g s d x)(H:Fits s d.m)(l:d.m.fit)(c:Int):
  Calls Tryz.prog 46 #[.pointer (some ⟨g,0,.none⟩),.int .i64 c] W fun e w'=>e= .returned (.int .i64 (zrl s d c))/\Below W.heap.size W w':=by
 have j:=fun Y=>zau s.p s.c s.m c Y;obtain⟨c0,c1,c2⟩:=ci3 s.p s.c s.m h.top.cell;have c3:=ce (.pointer (some ⟨x.p,0,.none⟩)) (h.top.cell 3);have lg:g<W.heap.size:=h.top.lt;have O:∀ (p:Nat) (W:World),(binOp .eql 27 (.pointer (some ⟨p,0,.none⟩)) (.pointer none)).run Tryz.prog W= .ok (.bool false) W:=fun p W=>by kernel_rfl
 unfold zrl;by_cases hc:0<=zae s.p s.c s.m c
 ·rw[if_pos hc];have I:=zbe hc;have G:0<=c/\c<s.c:=by omega
  have z:=H.status G;rw[z.1]at j hc;have C:=fun Y (E:zaq Y x.p x.b d.m)=>z3c x.p x.b d.m c Y E z.2;have D:=fun Y=>zfz (d.m.get c) Y (Mem.ze4 l c).1 (Mem.ze4 l c).2;have N:d.stat c=if (za8 (zbx (d.m.get c)) (za2 (d.m.get c) 0)==d.m.get c)=true then zbx (d.m.get c) else 0:=rfl;rw[N];have V:=hd' h.wds;have U:¬ c<0:=by omega
  generalize d.m.get c=v at *;generalize zbx v=J at *;generalize za2 v 0=L at *;generalize (za8 J L==v)=bb at *;have y:∀ Y,Below W.heap.size W Y->zaq Y x.p x.b d.m:=fun Y E=>V.out.below E;have o:∀ Y,Calls Tryz.prog 97 #[.int .u64 v] Y fun e w'=>e= .returned (.tuple #[.int .i64 (if bb=true then J else 0),.int .i64 (if bb=true then L else 0)])/\Below Y.heap.size Y w':=fun Y=>(D Y).mono fun e w' ⟨a,b⟩=>⟨by rw[b];cases bb<;>rfl,a⟩;generalize (if bb=true then J else 0)=k1 at *;generalize (if bb=true then L else 0)=k2 at *;replace y:=hd' y;replace j:=hd' j;replace C:=hd' C;replace o:=hd' o;clear h H l I z N D;go_in;go_upto_region 3 with(go_at_call 57;(with_reducible refine(j.out _).mono ?_);rintro r R ⟨rfl,i⟩;have d0:=zai i _ _ _ c0;have d1:=zai i _ _ _ c1;have d2:=zai i _ _ _ c2;have d3:=zai i _ _ _ c3;have Z:g<R.heap.size:=(by have:=i.size;omega));clear c0 c1 c2 c3;refine zaj (by kernel_rfl) (by kernel_rfl) ?_;repeat (go_big_quiet_step ((first|(go_at_call 57;exact zam (j.out _))|(go_at_call 98;exact zdx (C.out _ (y.out _ (zab i (Ext.below _)))))|(go_at_call 97;exact zam (o.out _)))))
  refine wpQuiet_nil ?_;rintro _ ⟨M,rfl⟩;have S:=zab i M.below;generalize M.w=X at *;go_wp2_with fail;go_returns;exact⟨rfl,S⟩
 rw[if_neg hc];have T:zae s.p s.c s.m c<0:=by omega
 generalize zae s.p s.c s.m c=sx at *;replace j:=hd' j;clear h H l hc;go_in;go_wp2_with (go_at_call 57;(with_reducible refine(j.out _).mono ?_);rintro r R ⟨rfl,i⟩);go_returns;exact⟨rfl,i⟩
end

end

section

open Go.RowKit

attribute [local go_sem ↓] Go.wp_at_zero Go.wp_at_succ

theorem WdP.weak{B:Nat}{F G:Nat->Prop}{W:World}{g:Nat}{s:Sh}{d:Wd}{x:Wx}(h:WdP B F W g s d x)(f:∀ i,F i->G i)(j:∀ i,G i->B<=i/\i<W.heap.size):WdP B G W g s d x:=
 ⟨h.top,h.wds,h.lst,h.pl,h.pe,h.cl,h.tr,h.lg,j,⟨f _ h.fg.1,h.fg.2⟩,⟨f _ h.fp.1,h.fp.2⟩,⟨f _ h.fb.1,h.fb.2⟩,⟨f _ h.fl.1,h.fl.2⟩,fun i hi=>⟨f _ (h.ft i hi).1,(h.ft i hi).2⟩,fun i hi=>⟨f _ (h.fs i hi).1,(h.fs i hi).2⟩,fun c i hi=>⟨f _ (h.fc c i hi).1,(h.fc c i hi).2⟩⟩
theorem zs4{w:World}{B i:Nat}{E:TypeId}{size:Nat}{v:Value}{n:Nat}{xs:List Value}(h:w.ownsRow B E size v n xs)(j:i<=B):w.ownsRow i E size v n xs:=
 ⟨h.1,h.2.imp id fun ⟨g,cap,f,l,hb,rest⟩=>⟨g,cap,f,l,Nat.le_trans j hb,rest⟩⟩
theorem WdP.lower{B j:Nat}{F:Nat->Prop}{W:World}{g:Nat}{s:Sh}{d:Wd}{x:Wx}(h:WdP B F W g s d x)(f:j<=B):WdP j F W g s d x:=
 ⟨h.top,h.wds,h.lst,h.pl,h.pe,h.cl,zs4 h.tr f,zs4 h.lg f,fun i hi=>⟨Nat.le_trans f (h.lt i hi).1,(h.lt i hi).2⟩,h.fg,h.fp,h.fb,h.fl,h.ft,h.fs,h.fc⟩
def WdTo (B:Nat) (F:Nat->Prop) (W W':World) (g:Nat) (s:Sh) (d:Wd):Prop:=(∃ x,WdP B (grow F W W') W' g s d x)/\Only F W W'/\B<=W'.heap.size
section

variable {B:Nat} {F:Nat->Prop} {W W1 W2:World} {g:Nat} {s:Sh} {d d2:Wd} {x:Wx}

theorem WdTo.trans(h:WdTo B F W W1 g s d)(k:WdTo B (grow F W W1) W1 W2 g s d2):WdTo B F W W2 g s d2:=by
 obtain⟨_,f,o⟩:=h;obtain⟨⟨x,k1⟩,j,l⟩:=k;refine⟨⟨x,k1.eqv (grow_grow f.size j.size)⟩,Only.trans f j (fun i hi e=>?_),l⟩;rcases e with e|e
 ·exact e
 omega
theorem WdTo.below(h:WdTo B F W W1 g s d)(r:B<=W.heap.size)(j:∀ i,F i->B<=i/\i<W.heap.size)(hb:Below W1.heap.size W1 W2):WdTo B F W W2 g s d:=by
 obtain⟨⟨x,l⟩,f,o⟩:=h;have hs:=hb.size;refine⟨⟨x,(l.below hb).weak (fun i hi=>?_) (fun i hi=>?_)⟩,Only.trans (F:=F) f (Only.of_below (F:=fun _=>False) hb) (fun _ _ e=>e.elim),by omega⟩
 ·rcases hi with hi|hi
  ·exact .inl hi
  exact .inr ⟨hi.1,by omega⟩
 have:=f.size;rcases hi with hi|hi
 ·exact⟨(j i hi).1,by have:=(j i hi).2;omega⟩
 exact⟨by omega,hi.2⟩
theorem WdTo.start(h:WdP B F W g s d x)(f:B<=W.heap.size)(hb:Below W.heap.size W W1):WdTo B F W W1 g s d:=
 ⟨⟨x,(h.grows f hb)⟩,Only.of_below hb,by have:=hb.size;omega⟩
theorem WdTo.set(h:WdP B F W g s d x)(l:B<=W.heap.size)(j:WdP B F W1 g s d2 x)(f:Only F W W1):WdTo B F W W1 g s d2:=by
 have hs:=f.size;refine⟨⟨x,j.weak (fun i hi=>.inl hi) (fun i hi=>?_)⟩,f,by omega⟩;rcases hi with hi|hi
 ·exact⟨(h.lt i hi).1,by have:=(h.lt i hi).2;omega⟩
 exact⟨by omega,hi.2⟩
theorem WdTo.from(h:WdP B F W g s d x)(o:B<=W.heap.size)(hb:Below W.heap.size W W1)(k:WdTo B F W1 W2 g s d2):WdTo B F W W2 g s d2:=by
 obtain⟨⟨x,k1⟩,f,l⟩:=k;have hs:=hb.size;have j:=f.size;refine⟨⟨x,k1.weak (fun i hi=>?_) (fun i hi=>?_)⟩,Only.trans (F:=F) (Only.of_below hb) f (fun i _ hi=>hi),l⟩
 ·rcases hi with hi|hi
  ·exact .inl hi
  exact .inr ⟨by omega,hi.2⟩
 rcases hi with hi|hi
 ·exact⟨(h.lt i hi).1,by have:=(h.lt i hi).2;omega⟩
 exact⟨by omega,hi.2⟩
def WdTq (R:(Nat->Nat)->Prop) (B:Nat) (F:Nat->Prop) (W W':World) (g:Nat) (s:Sh) (d:Wd):Prop:=(∃ x,WdP B (grow F W W') W' g s d x/\R x.qs)/\Only F W W'/\B<=W'.heap.size
theorem WdTq.to{R:(Nat->Nat)->Prop}(h:WdTq R B F W W1 g s d):WdTo B F W W1 g s d:=by
 obtain⟨⟨x,f,_⟩,i,j⟩:=h;exact⟨⟨x,f⟩,i,j⟩
theorem WdTo.q{R:(Nat->Nat)->Prop}(h:WdTo B F W W1 g s d)(l:∀ q,R q):WdTq R B F W W1 g s d:=by
 obtain⟨⟨x,f⟩,i,j⟩:=h;exact⟨⟨x,f,l _⟩,i,j⟩
theorem WdTq.imp{R S:(Nat->Nat)->Prop}(h:WdTq R B F W W1 g s d)(o:∀ q,R q->S q):WdTq S B F W W1 g s d:=by
 obtain⟨⟨x,f,l⟩,i,j⟩:=h;exact⟨⟨x,f,o _ l⟩,i,j⟩
theorem WdTq.trans{R:(Nat->Nat)->Prop}(h:WdTo B F W W1 g s d)(k:WdTq R B (grow F W W1) W1 W2 g s d2):WdTq R B F W W2 g s d2:=by
 obtain⟨_,f,r⟩:=h;obtain⟨⟨x,k1,o⟩,j,l⟩:=k;refine⟨⟨x,k1.eqv (grow_grow f.size j.size),o⟩,Only.trans f j (fun i hi e=>?_),l⟩;rcases e with e|e
 ·exact e
 omega
theorem WdTq.start{R:(Nat->Nat)->Prop}(h:WdP B F W g s d x)(f:B<=W.heap.size)(hb:Below W.heap.size W W1)(i:R x.qs):WdTq R B F W W1 g s d:=
 ⟨⟨x,(h.grows f hb),i⟩,Only.of_below hb,by have:=hb.size;omega⟩
theorem WdTq.from{R:(Nat->Nat)->Prop}(h:WdP B F W g s d x)(o:B<=W.heap.size)(hb:Below W.heap.size W W1)(k:WdTq R B F W1 W2 g s d2):WdTq R B F W W2 g s d2:=by
 obtain⟨⟨x,k1,z⟩,j,l⟩:=k;obtain⟨⟨C,t⟩,f,y⟩:=WdTo.from h o hb (⟨⟨x,k1⟩,j,l⟩:WdTo B F W1 W2 g s d2);have hs:=hb.size;refine⟨⟨x,k1.weak (fun i hi=>?_) (fun i hi=>?_),z⟩,f,l⟩
 ·rcases hi with hi|hi
  ·exact .inl hi
  exact .inr ⟨by omega,hi.2⟩
 have r:=j.size;rcases hi with hi|hi
 ·exact⟨(h.lt i hi).1,by have:=(h.lt i hi).2;omega⟩
 exact⟨by omega,hi.2⟩
end

theorem yco{W:World}(e:Ev):RdE (W.alloc (.cells e.cells 66)) (.slice (some ⟨W.heap.size,0,.none⟩) 1 1) [e]:=by
 have h:=RdS.new (sz:=8) (n:=1) (heap_alloc_new W (.cells e.cells 66)) rfl (by omega);unfold RdE;simpa using h
theorem WdP.ptr{B:Nat}{F:Nat->Prop}{W:World}{g:Nat}{s:Sh}{d:Wd}{x:Wx}(h:WdP B F W g s d x){c:Int}(f:0<=c)(hc:c.toNat<d.l.length):W.cell? ⟨x.lb,c.toNat,.none⟩=some (ptrK (d.kl c) (x.qs c.toNat)):=by
 refine(h.lst.cell _).trans ?_;have:=h.pe c.toNat hc;unfold Wd.kl;rw[if_pos f];simpa using this
section

variable {B:Nat} {F:Nat->Prop} {W:World} {g:Nat} {s:Sh} {d:Wd} {x:Wx} {n:Nat}

theorem zqf(h:WdP B F W g s d x)(r:B<=W.heap.size)(es:List Ev)(v:Value)(y:RdE W v es)(t:d.tr.length+es.length<=100000000):
  Calls Tryz.prog 61 #[.pointer (some ⟨g,0,.none⟩),v] W fun e w'=>e= .returned (.tuple #[])/\WdTq (fun q=>q=x.qs) B F W w' g s {d with tr:=d.tr++es}:=
 (z04 h r es v y t).mono fun e w' ⟨j,z,l,i,o⟩=>⟨j,⟨z,l,o⟩,i,by have:=i.size;omega⟩
theorem zwm(h:WdP B F W g s d x)(i:B<=W.heap.size)(es:List Ev)(v:Value)(l:RdE W v es)(j:d.tr.length+es.length<=100000000):
  Calls Tryz.prog 61 #[.pointer (some ⟨g,0,.none⟩),v] W fun e w'=>e= .returned (.tuple #[])/\WdTo B F W w' g s {d with tr:=d.tr++es}:=
 (zqf h i es v l j).mono fun e w' h=>⟨h.1,h.2.to⟩
theorem z1i(h:WdP B F W g s d x)(j:B<=W.heap.size)(i:Ev)(o:d.tr.length+1<=100000000):
  Calls Tryz.prog 61 #[.pointer (some ⟨g,0,.none⟩),.slice (some ⟨W.heap.size,0,.none⟩) 1 1] (W.alloc (.cells i.cells 66)) fun e w'=>e= .returned (.tuple #[])/\WdTo B F W w' g s {d with tr:=d.tr++[i]}:=by
 have hb:=(Below.refl W.heap.size W).alloc lr (.cells i.cells 66);have l:=h.grows j hb;refine(zwm l (by simp;omega) [i] _ (yco i) o).mono fun e w' hS=>⟨hS.1,(WdTo.start h j hb).trans hS.2⟩
theorem zq0(h:WdP B F W g s d x)(i:B<=W.heap.size)(k c:Int)(j:d.tr.length+1<=100000000):
  Calls Tryz.prog 61 #[.pointer (some ⟨g,0,.none⟩),.slice (some ⟨W.heap.size,0,.none⟩) 1 1] (W.alloc (.cells #[.int .i64 k,.int .i64 c,.int .i64 0,.int .i64 0,.int .i64 0,.int .i64 0,.int .i64 0,.int .i64 0] 66)) fun e w'=>e= .returned (.tuple #[])/\WdTo B F W w' g s {d with tr:=d.tr++[⟨k,c,0,0,0,0,0,0⟩]}:=
 z1i h i ⟨k,c,0,0,0,0,0,0⟩ j
theorem zyt(h:WdP B F W g s d x)(hB:B<=W.heap.size)(ho:wdOk s d n)(hn:n<=10000000)(c:Ch)(hc:0<=c.client/\c.client<s.c):
  Calls Tryz.prog 58 #[.pointer (some ⟨g,0,.none⟩),.agg c.cells.toArray] W fun e w'=>e= .returned (.int .i64 (d.begin s c).2)/\WdTo B F W w' g s (d.begin s c).1:=by
 have bz:=ho.fi.bd;have hi:c.client.toNat<d.l.length:=by rw[ho.len];omega
 have b4:=ho.tr;have bc:0<=zae s.p s.c s.m c.client:=by rw[zeu ho.fi.may hc];exact hc.1
 obtain⟨O,j,S,N,cn,y⟩:=c;show Calls Tryz.prog 58 #[.pointer (some ⟨g,0,.none⟩),.agg #[.int .i64 O,.int .i64 j,.int .i64 S,.int .i64 N,.int .i64 cn,.float .f64 y]] W _;dsimp only at hc hi bc;have C:=(Below.refl W.heap.size W).alloc lr (.cells #[.int .i64 O,.int .i64 j,.int .i64 S,.int .i64 N,.int .i64 cn,.float .f64 y] 38);have t0:zaa (W.alloc (.cells #[.int .i64 O,.int .i64 j,.int .i64 S,.int .i64 N,.int .i64 cn,.float .f64 y] 38)) W.heap.size #[.int .i64 O,.int .i64 j,.int .i64 S,.int .i64 N,.int .i64 cn,.float .f64 y] 38:=heap_alloc_new _ _;have G:=zmv (h.below C) ho.fi ho.fit j;have hv:zrl s d j=d.stat j:=if_pos bc;rw[hv]at G;have h1:=h.below C;have bj:B<=(W.alloc (.cells #[.int .i64 O,.int .i64 j,.int .i64 S,.int .i64 N,.int .i64 cn,.float .f64 y] 38)).heap.size:=by simp;omega
 have bx:g<(W.alloc (.cells #[.int .i64 O,.int .i64 j,.int .i64 S,.int .i64 N,.int .i64 cn,.float .f64 y] 38)).heap.size:=(h.below C).top.lt;have b5:¬ F W.heap.size:=fun e=>by have:=(h.lt _ e).2;omega
 have E:=fun W1 W2 d2 (hb:Below W.heap.size W W1)=>WdTo.from (W1:=W1) (W2:=W2) (d2:=d2) h hB hb;have z:=fun W1 (hb:Below W.heap.size W W1)=>WdTo.start (W1:=W1) h hB hb;have U:W.heap.size≠x.lb:=fun e=>by have:=(h.lt _ h.fl.1).2;omega
 clear h hv;have bq:d.stat j=0\/d.stat j≠0:=Decidable.em _;have V:∀ Y,Calls Tryz.prog 108 #[.agg #[.int .i64 s.p,.int .i64 s.c,.int .i64 s.m],.int .i64 j,.float .f64 y] Y fun e w'=>∃ q,e= .returned (.pointer (some ⟨q,0,.none⟩))/\KlO (fun i=>Y.heap.size<=i/\i<w'.heap.size) w' q s (zht j (Fl.zdr y s.p))/\Below Y.heap.size Y w':=fun Y=>(z0k s j y Y (by omega)).mono fun e w' hh=>by obtain⟨h1,h2⟩:=hh;rw[if_neg (by rw[zeu ho.fi.may hc];omega)]at h2;obtain⟨q,e,I⟩:=h2;exact⟨q,e,I,h1⟩
 have b3:=fun F' Y L x' (hY:WdP B F' Y g s {d with l:=L} x')=>zlc hY ho.fi j 1 hc;replace V:=hd' V;replace b3:=hd' b3;replace G:=hd' G;replace E:=hd' E;replace z:=hd' z;replace b4:=hd' b4;have M:d.begin s ⟨O,j,S,N,cn,y⟩=if d.stat j=0 then(⟨d.m.put j (za8 1 0),d.l.set j.toNat (some (zht j (Fl.zdr y s.p))),d.tr++[zcj j],d.lg⟩,0) else(d,5):=rfl;obtain⟨R,hR,b7⟩:∃ R:Wd × Int,Hid (R=d.begin s ⟨O,j,S,N,cn,y⟩)/\R=d.begin s ⟨O,j,S,N,cn,y⟩:=⟨_,hd' rfl,rfl⟩;rw[<-b7];clear b7;replace M:=hd' M;go_in;go_upto_region 1 with fail;generalize W.alloc (.cells #[.int .i64 O,.int .i64 j,.int .i64 S,.int .i64 N,.int .i64 cn,.float .f64 y] 38)=X at *;obtain⟨H,hH,b6⟩:=hidv W.heap.size;rw[<-b6]at t0 U b5 ⊢;clear b6;replace C:=hd' C;have lH:=t0.lt;have c1:=ci j (t0.cell 1);rcases bq with hu|hu
 ·have b1:=hd' ((hR.out.trans M.out).trans (if_pos hu));rw[hu]at G;clear hu hR M;go_upto_region 3 with(go_at_call 46;(with_reducible refine G.out.mono ?_);rintro r w1 ⟨rfl,D⟩);have I:=h1.below D;have bp:=hd' (zab C.out D);have t1:=t0.below D;have bh:B<=w1.heap.size:=by have:=D.size;omega
  clear c1 t0 G h1 lH bx D bj C z;have c7:=(I.lt _ I.fl.1).2;have lH:=t1.lt;have lg:=I.top.lt;have bs:g≠x.lb:=fun e=>by have:=I.fg.2;have:=I.fl.2;rw[e]at *;omega
  have hK:∀ Y:World,zaa Y H #[.int .i64 O,.int .i64 j,.int .i64 S,.int .i64 N,.int .i64 cn,.float .f64 y] 38->zaa Y g (zfd s x.p x.lb d.l.length x.tv x.sv) 117->(Y.cell? ⟨H,1,.none⟩=some (.int .i64 j)/\Y.cell? ⟨H,5,.none⟩=some (.float .f64 y)/\Y.cell? ⟨g,0,.none⟩=some (.int .i64 s.p)/\Y.cell? ⟨g,1,.none⟩=some (.int .i64 s.c)/\Y.cell? ⟨g,2,.none⟩=some (.int .i64 s.m)/\Y.cell? ⟨g,4,.none⟩=some (.slice (some ⟨x.lb,0,.none⟩) d.l.length d.l.length)):=fun Y h1 h2=>⟨h1.cell 1,h1.cell 5,h2.cell 0,h2.cell 1,h2.cell 2,h2.cell 4⟩;have J:∀ Y:World,Below w1.heap.size w1 Y->zaa Y H #[.int .i64 O,.int .i64 j,.int .i64 S,.int .i64 N,.int .i64 cn,.float .f64 y] 38/\zaa Y g (zfd s x.p x.lb d.l.length x.tv x.sv) 117/\Y.cell? ⟨x.lb,j.toNat,.none⟩=some (ptrK (d.kl j) (x.qs j.toNat))/\(∀ i,Y.frozen? ⟨x.lb,i,.none⟩=false)/\x.lb<Y.heap.size:=fun Y hb=>⟨t1.below hb,(I.below hb).top,(I.below hb).ptr hc.1 hi,zax (I.below hb).lst,(I.below hb).lst.lt⟩;replace hK:=hd' hK;replace J:=hd' J;have c6:j<(d.l.length:Int):=by omega
  have c4:=hc.1
  go_region_held3 (fun Y=>Y.cell? ⟨H,1,.none⟩=some (.int .i64 j)/\Y.cell? ⟨H,5,.none⟩=some (.float .f64 y)/\Y.cell? ⟨g,0,.none⟩=some (.int .i64 s.p)/\Y.cell? ⟨g,1,.none⟩=some (.int .i64 s.c)/\Y.cell? ⟨g,2,.none⟩=some (.int .i64 s.m)/\Y.cell? ⟨g,4,.none⟩=some (.slice (some ⟨x.lb,0,.none⟩) d.l.length d.l.length))
   (first|exact hK.out _ (J.out _ br.drew).1 (J.out _ br.drew).2.1|exact hK.out _ k4.1 k4.2.1|exact hK.out _ (k4.1.other U _ _) (k4.2.1.other bs _ _))
   (first|(go_at_call 108;(with_reducible refine(V.out _).mono ?_);rintro r w4 ⟨q,rfl,b9,b2⟩;have k4:=J.out _ (br.drew.trans b2);have z4:=k4.2.2.1;have zf:=k4.2.2.2.1;have zl:=k4.2.2.2.2))
  have b0:Below w1.heap.size w1 w4:=br.drew.trans b2;obtain⟨x',Z,ba,_,_⟩:=I.place (o:=some (zht j (Fl.zdr y s.p))) (q:=q) bh hi b0 (fun k e=>by injection e with e;subst e;exact b9) (fun i hi=>hi) rfl;have tY:=k4.1.other U j.toNat (ptrK (some (zht j (Fl.zdr y s.p))) q);have c8:=ba.size;have bm:=hd' (⟨⟨x',Z⟩,ba,by omega⟩:WdTo B F w1 _ g s {d with l:=d.l.set j.toNat (some (zht j (Fl.zdr y s.p)))});change Exit.then _ _ _ _ (w4.setCell ⟨x.lb,j.toNat,.none⟩ (ptrK (some (zht j (Fl.zdr y s.p))) q));generalize w4.setCell ⟨x.lb,j.toNat,.none⟩ (ptrK (some (zht j (Fl.zdr y s.p))) q)=Y at *;have cY:=ci j (tY.cell 1);have lY:=tY.lt;have bu:¬ grow F w1 Y H:=fun e=>by rcases e with e|e;exact b5 e;omega
  have bk:B<=Y.heap.size:=by omega
  have cd:=Z.top.lt;clear k4 z4 zf zl b2 b9 b0 hK J V I U;have T:d.tr.length+1<=100000000:=by have:=b4.out;omega
  replace T:=hd' T;go_wp2_with (first|(go_at_call 62;go_loud ((with_reducible refine(b3.out _ _ _ _ Z).mono ?_);rintro r w5 ⟨rfl,bw,bb⟩;have bg:=tY.only bb bu;have c5:=ci j (bg.cell 1);have l5:=bg.lt;have b8:=hd' (WdTo.trans bm.out (WdTo.set Z bk bw bb));obtain⟨⟨x2,bf⟩,_,bi⟩:=id b8.out;have c9:=bf.top.lt;have bv:=zq0 bf bi 0 j T.out))|(go_at_call 61;(with_reducible refine bv.mono ?_);rintro r w6 ⟨rfl,bn⟩));go_returns;rw[b1.out];exact⟨rfl,E.out _ _ _ bp.out (b8.out.trans bn)⟩
 have b1:=hd' ((hR.out.trans M.out).trans (if_neg hu));clear hR M;generalize d.stat j=sv at *;go_wp2_with (go_at_call 46;(with_reducible refine G.out.mono ?_);rintro r w1 ⟨rfl,D⟩);go_returns;rw[b1.out];exact⟨rfl,z.out _ (zab C.out D)⟩
end

end

end Go.Proofs.YtkbddndcegpllaaGreat
