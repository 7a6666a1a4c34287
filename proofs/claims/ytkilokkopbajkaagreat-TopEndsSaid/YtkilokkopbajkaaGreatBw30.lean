
import Derived.Test.YtkilokkopbajkaaGreatBw22

import Derived.Test.YtkilokkopbajkaaGreatBw26

import Derived.Test.YtkilokkopbajkaaGreatBw29

set_option linter.all false
set_option maxHeartbeats 4000000
set_option maxRecDepth 100000
namespace Go.Proofs.YtkilokkopbajkaaGreat

open RowKit

attribute [local go_sem ↓] wp_at_zero wp_at_succ

attribute [local go_sem] CA

section

def RB (s:Sh) (k:Kl) (idle:Bool) (jv sv:Value):Array Value:=#[s.p,s.c,s.m,k.c,k.first,k.op.k,k.op.a,k.op.n,jv,idle,k.told,sv,k.steps]
attribute [local go_sem] RB

theorem sU{q sp:Nat}{s:Sh}{k:Kl}{i:Bool}{jv sl:Value}{most:Int}{fs:List Fr}(x at':Int){w:World}(h:aA w q (RB s k i jv (.pointer (some ⟨sp,0,.none⟩))) 161)(hs:SK 0 w sp sl most fs)(S:¬foot sp sl q):
  Calls Tryz.prog 97 #[some q,x,at'] w λr w'=>r=.returned (RA k.c k.op at' x).val/\aA w' q (RB s k true .nilIface (.pointer (some ⟨sp,0,.none⟩))) 161/\SK 0 w' sp (.slice none 0 0) most []/\Only (λb=>b=q\/foot sp sl b) w w':=by
 unfold Ev.val Ev.cells RA;dsimp only;obtain⟨b2,sc,sm⟩:=s;obtain⟨n,kf,⟨ok,oa,on⟩,kj,kt,ks⟩:=k;dsimp only[RB]at h|-;have B:=(Below.refl w.heap.size w).alloc lr (.cells #[.int .i64 0,.int .i64 0,.int .i64 0,.int .i64 0,.int .i64 0,.int .i64 0,.int .i64 0,.int .i64 0] 62);have hE:aA (w.alloc (.cells #[.int .i64 0,.int .i64 0,.int .i64 0,.int .i64 0,.int .i64 0,.int .i64 0,.int .i64 0,.int .i64 0] 62)) w.heap.size #[.int .i64 0,.int .i64 0,.int .i64 0,.int .i64 0,.int .i64 0,.int .i64 0,.int .i64 0,.int .i64 0] 62:=jA _ _;have lq:q<w.heap.size:=h.lt;go_in;go_upto_region 1 with fail;have M:=h.below B;have b0:=hs.below B;generalize w.alloc (.cells #[.int .i64 0,.int .i64 0,.int .i64 0,.int .i64 0,.int .i64 0,.int .i64 0,.int .i64 0,.int .i64 0] 62)=X at*;obtain⟨E,bi,D⟩:=hidv w.heap.size;rw[<-D]at hE|-;have l:w.heap.size<=E:=by omega
 have j:q≠E:=by omega
 have J:∀b,foot sp sl b->b≠E:=λb hb=>by
  rcases hb with rfl|hb
  .have:=hs.lt;omega
  have:=hs.AF b hb;omega
 have b1:sp≠E:=J sp (.inl rfl);clear D;have lX:q<X.heap.size:=M.lt;have fX:=KA M;have b3:=M.cell;go_upto_region 2 with fail;have m:=(M.set 9 (.bool true)).set 8 .nilIface;have H:∀b,foot sp sl b->b≠q:=λb hb e=>S (e▸hb);have V:SK 0 ((X.setCell ⟨q,9,.none⟩ (.bool true)).setCell ⟨q,8,.none⟩ .nilIface) sp sl most fs:=b0.blocks λb hb=>by rw[Below.heap_setCell _ ⟨q,8,.none⟩ _ b (H b hb),Below.heap_setCell _ ⟨q,9,.none⟩ _ b (H b hb)]
 have L:=(hE.other (λe=>j e.symm) 9 (.bool true)).other (λe=>j e.symm) 8 .nilIface;have O:Only (λb=>b=q\/foot sp sl b) w ((X.setCell ⟨q,9,.none⟩ (.bool true)).setCell ⟨q,8,.none⟩ .nilIface):=Only.setCell (F:=λb=>b=q\/foot sp sl b) (Only.setCell (F:=λb=>b=q\/foot sp sl b) (Only.of_below B) (.inl (.inl rfl)) _) (.inl (.inl rfl)) _;generalize (X.setCell ⟨q,9,.none⟩ (.bool true)).setCell ⟨q,8,.none⟩ .nilIface=Y at*;clear b3 lX fX M b0 hs B;replace m:=m.cast (cs':=#[b2,sc,sm,n,kf,ok,oa,on,.nilIface,.bool true,kt,some sp,ks]) rfl;have lY:q<Y.heap.size:=m.lt;have b4:=m.cell;have N:=hd' (zq6 V);go_upto_region 3 with(go_at_call 127;(with_reducible refine N.out.mono ?_);rintro r w1 ⟨rfl,C,T⟩);have y:=m.only C S;have I:=L.only C (λhb=>J E hb rfl);have R:=O.trans C (λb _ hb=>.inr hb);clear lY b4 N m L O C V J;have bg:q<w1.heap.size:=y.lt;have bf:E<w1.heap.size:=I.lt;have b5:=y.cell;refine wret 11 ?_;repeat (go_big_quiet_step (fail))
 refine wqn λZ z=>?_;have b6:=y.below z;have o:=I.below z;have bc:=T.below z;have b9:=R.trans (Only.of_below (F:=λ_=>False) z) (λ_ _ hb=>hb.elim);clear bg bf b5 y I T R;have lE:E<Z.heap.size:=o.lt;have fE:=KA o;have bh:=o.cell;go_wp2_with fail;have hF:aA ((((((((Z.setCell ⟨E,0,.none⟩ (.int .i64 5)).setCell ⟨E,1,.none⟩ (.int .i64 n)).setCell ⟨E,2,.none⟩ (.int .i64 ok)).setCell ⟨E,3,.none⟩ (.int .i64 oa)).setCell ⟨E,4,.none⟩ (.int .i64 on)).setCell ⟨E,5,.none⟩ (.int .i64 at')).setCell ⟨E,6,.none⟩ (.int .i64 0)).setCell ⟨E,7,.none⟩ (.int .i64 x)) E #[.int .i64 5,n,ok,oa,on,at',.int .i64 0,x] 62:=((((((((o.set 0 (.int .i64 5)).set 1 (.int .i64 n)).set 2 (.int .i64 ok)).set 3 (.int .i64 oa)).set 4 (.int .i64 on)).set 5 (.int .i64 at')).set 6 (.int .i64 0)).set 7 (.int .i64 x));have ba:aA ((((((((Z.setCell ⟨E,0,.none⟩ (.int .i64 5)).setCell ⟨E,1,.none⟩ (.int .i64 n)).setCell ⟨E,2,.none⟩ (.int .i64 ok)).setCell ⟨E,3,.none⟩ (.int .i64 oa)).setCell ⟨E,4,.none⟩ (.int .i64 on)).setCell ⟨E,5,.none⟩ (.int .i64 at')).setCell ⟨E,6,.none⟩ (.int .i64 0)).setCell ⟨E,7,.none⟩ (.int .i64 x)) q #[b2,sc,sm,n,kf,ok,oa,on,.nilIface,.bool true,kt,some sp,ks] 161:=((((((((b6.other j 0 (.int .i64 5)).other j 1 (.int .i64 n)).other j 2 (.int .i64 ok)).other j 3 (.int .i64 oa)).other j 4 (.int .i64 on)).other j 5 (.int .i64 at')).other j 6 (.int .i64 0)).other j 7 (.int .i64 x));have b8:Only (λb=>b=q\/foot sp sl b) w ((((((((Z.setCell ⟨E,0,.none⟩ (.int .i64 5)).setCell ⟨E,1,.none⟩ (.int .i64 n)).setCell ⟨E,2,.none⟩ (.int .i64 ok)).setCell ⟨E,3,.none⟩ (.int .i64 oa)).setCell ⟨E,4,.none⟩ (.int .i64 on)).setCell ⟨E,5,.none⟩ (.int .i64 at')).setCell ⟨E,6,.none⟩ (.int .i64 0)).setCell ⟨E,7,.none⟩ (.int .i64 x)):=((((((((b9.setCell (p:=⟨E,0,.none⟩) (.inr l) (.int .i64 5)).setCell (p:=⟨E,1,.none⟩) (.inr l) (.int .i64 n)).setCell (p:=⟨E,2,.none⟩) (.inr l) (.int .i64 ok)).setCell (p:=⟨E,3,.none⟩) (.inr l) (.int .i64 oa)).setCell (p:=⟨E,4,.none⟩) (.inr l) (.int .i64 on)).setCell (p:=⟨E,5,.none⟩) (.inr l) (.int .i64 at')).setCell (p:=⟨E,6,.none⟩) (.inr l) (.int .i64 0)).setCell (p:=⟨E,7,.none⟩) (.inr l) (.int .i64 x));have bb:SK 0 ((((((((Z.setCell ⟨E,0,.none⟩ (.int .i64 5)).setCell ⟨E,1,.none⟩ (.int .i64 n)).setCell ⟨E,2,.none⟩ (.int .i64 ok)).setCell ⟨E,3,.none⟩ (.int .i64 oa)).setCell ⟨E,4,.none⟩ (.int .i64 on)).setCell ⟨E,5,.none⟩ (.int .i64 at')).setCell ⟨E,6,.none⟩ (.int .i64 0)).setCell ⟨E,7,.none⟩ (.int .i64 x)) sp (.slice none 0 0) most []:=bc.blocks λb hb=>by
  have b7:b≠E:=by
   rcases hb with rfl|hb
   .exact b1
   cases hb
  simp only[Below.heap_setCell _ ⟨E,_,.none⟩ _ b b7]
 generalize (((((((Z.setCell ⟨E,0,.none⟩ (.int .i64 5)).setCell ⟨E,1,.none⟩ (.int .i64 n)).setCell ⟨E,2,.none⟩ (.int .i64 ok)).setCell ⟨E,3,.none⟩ (.int .i64 oa)).setCell ⟨E,4,.none⟩ (.int .i64 on)).setCell ⟨E,5,.none⟩ (.int .i64 at')).setCell ⟨E,6,.none⟩ (.int .i64 0)).setCell ⟨E,7,.none⟩ (.int .i64 x)=U at*;obtain⟨r0,r1,r2,r3,r4,r5,r6,r7⟩:=ci8 5 n ok oa on at' 0 x hF.cell;exact bodyPost_ret (v:=.agg #[.int .i64 5,n,ok,oa,on,at',.int .i64 0,x]) (by simp[results,Tryz.results97,go_sem,r0,r1,r2,r3,r4,r5,r6,r7]) rfl ⟨rfl,ba,bb,b8⟩
end

section

attribute [local go_sem] RB

theorem JL:(Tryz.prog.info? 62).map (λi=>(i.zero,i.size,i.bytes))=some (some (.agg #[.int .i64 0,.int .i64 0,.int .i64 0,.int .i64 0,.int .i64 0,.int .i64 0,.int .i64 0,.int .i64 0]),8,64):=by kernel_rfl
theorem SH(B:Nat)(w:World):w.ownsRow B 62 8 (.slice none 0 0) 0 []:=⟨by simp,.inl ⟨rfl,rfl⟩⟩
theorem ML(e:Ev):∀u∈e.cells.toList,u.oneCell'=true:=by
 intro u hu;simp only[Ev.cells,List.mem_cons,List.not_mem_nil,or_false]at hu;rcases hu with rfl|rfl|rfl|rfl|rfl|rfl|rfl|rfl<;>rfl
theorem evRd(e:Ev)(X:World):RdS (X.alloc (.cells e.cells 62)) 8 (.slice (some ⟨X.heap.size,0,.none⟩) 1 1) 1 e.cells.toList:=RdS.new (jA _ _) rfl (by decide)
theorem rE{w w':World}{B:Nat}{E:TypeId}{size:Nat}{v:Value}{n:Nat}{xs:List Value}(h:w.ownsRow B E size v n xs)(hb:Below w.heap.size w w'):w'.ownsRow B E size v n xs:=
 oC h λk b=>hb.block k (h.lt k b).2
theorem MU{w w':World}{B:Nat}{F:Nat->Prop}{E:TypeId}{size:Nat}{v:Value}{n:Nat}{xs:List Value}(h:w.ownsRow B E size v n xs)(j:Only F w w')(i:∀b,B<=b->¬F b):w'.ownsRow B E size v n xs:=
 oC h λk f=>j.block k (h.lt k f).2 (i k (h.lt k f).1)
theorem aA.belB{B:Nat}{w w':World}{q:Nat}{cs:Array Value}{T:TypeId}(h:aA w q cs T)(hb:Below B w w')(b:q<B):aA w' q cs T:=(hb.block q b).trans h
theorem NL{F:Nat->Prop}{w X Y:World}(h:Only F w X)(hb:Below w.heap.size X Y):Only F w Y:=
 ⟨hb.os.trans h.os,hb.tape.trans h.tape,hb.output.trans h.output,Nat.le_trans h.size hb.size,λk b f=>(hb.block k b).trans (h.block k b f)⟩
theorem KI{B:Nat}{w w':World}(hb:Below B w w'):Only (λb=>B<=b) w w':=⟨hb.os,hb.tape,hb.output,hb.size,λk _ f=>hb.block k (by omega)⟩
def AdO (F:Nat->Prop) (w:World) (q:Nat) (s:Sh) (a:Ad):Prop:=F q/\aA w q (CA s a) 252
theorem AdO.only{F G:Nat->Prop}{w w':World}{q:Nat}{s:Sh}{a:Ad}(h:AdO F w q s a)(b:Only G w w')(hd:∀k,F k->¬G k):AdO F w' q s a:=⟨h.1,h.2.only b (hd q h.1)⟩
theorem AdO.below{F:Nat->Prop}{w w':World}{q:Nat}{s:Sh}{a:Ad}(h:AdO F w q s a)(hb:Below w.heap.size w w'):AdO F w' q s a:=⟨h.1,h.2.below hb⟩
theorem FeO.below{F:Nat->Prop}{w w':World}{q:Nat}{s:Sh}{t:Fe}(h:FeO F w q s t)(hb:Below w.heap.size w w'):FeO F w' q s t:=h.only (Only.of_below (F:=λ_=>False) hb) (λ_ _ e=>e)
theorem MalO.below{F:Nat->Prop}{w w':World}{q:Nat}{s:Sh}{cl:Int}{r:Rs}{c:Option Cm}(h:MalO F w q s cl r c)(hb:Below w.heap.size w w'):MalO F w' q s cl r c:=h.only (Only.of_below (F:=λ_=>False) hb) (λ_ _ e=>e)
structure GL (q sp:Nat) (s:Sh) (k:Kl) (d:Bool) (jv sl:Value) (most:Int) (fs:List Fr) (es:List Ev) (w w':World) (r:Ending):Prop where
 ret:∃v,r=.returned v/\w'.ownsRow w.heap.size 62 8 v es.length (es.flatMap λe=>e.cells.toList)
 row:aA w' q (RB s k d (if d=true then .nilIface else jv) (.pointer (some ⟨sp,0,.none⟩))) 161
 stk:SK 0 w' sp (if d=true then .slice none 0 0 else sl) most (if d=true then [] else fs)
 only:Only (λb=>b=q\/foot sp sl b) w w'
section

variable {G:Nat->Prop}{Y:World}{q1:Nat}{s:Sh}

theorem zgh{f:Fe}(h:FeO G Y q1 s f):Calls Tryz.prog 242 #[.agg #[some q1]] Y λe w'=>e=.returned (.bool f.gave)/\Below Y.heap.size Y w':=by
 obtain⟨_,q2,h3,_⟩:=h;exact zxu q1 _ f.gave Y h3.row rfl
theorem zf9{f:Fe}(h:FeO G Y q1 s f):Calls Tryz.prog 162 #[some q1] Y λe w'=>e=.returned (.bool f.done)/\Below Y.heap.size Y w':=by
 obtain⟨_,q2,h3,_⟩:=h;exact(CP q1 _ f.done Y h3.row rfl).mono (λe w' h=>⟨h.1,h.2▸Below.refl _ _⟩)
theorem zm8{f:Fe}(_h:FeO G Y q1 s f):Calls Tryz.prog 243 #[.agg #[some q1]] Y λe w'=>e=.returned (gotV none)/\Below Y.heap.size Y w':=zze _ Y
theorem zqy{f:Fe}(h:FeO G Y q1 s f):Calls Tryz.prog 241 #[.agg #[some q1]] Y λe w'=>e=.returned (.int .i64 (Jb.fre f).err)/\Below Y.heap.size Y w':=by
 obtain⟨_,q2,h3,_⟩:=h;exact z2s q1 _ f.gave Y h3.row rfl
theorem zd8{t:Rr}(h:RrO G Y q1 s t):Calls Tryz.prog 248 #[.agg #[some q1]] Y λe w'=>e=.returned (.bool (Jb.aga t).gave)/\Below Y.heap.size Y w':=zyz h
theorem zd5{t:Rr}(h:RrO G Y q1 s t):Calls Tryz.prog 244 #[some q1] Y λe w'=>e=.returned (.bool t.done)/\Below Y.heap.size Y w':=by
 obtain⟨_,_,_,_,_,_,_,_,_,_,b,_⟩:=h;exact(zzc q1 _ t.done Y b rfl).mono (λe w' h=>⟨h.1,h.2▸Below.refl _ _⟩)
theorem zgc{t:Rr}(hd:t.done=true->t.err=0->∃r,t.res=some r)(h:RrO G Y q1 s t):Calls Tryz.prog 249 #[.agg #[some q1]] Y λe w'=>e=.returned (gotV (Jb.aga t).took)/\Below Y.heap.size Y w':=zzp h hd
theorem zii{t:Rr}(h:RrO G Y q1 s t):Calls Tryz.prog 247 #[.agg #[some q1]] Y λe w'=>e=.returned (.int .i64 (Jb.aga t).err)/\Below Y.heap.size Y w':=by
 obtain⟨_,_,_,_,_,_,_,_,_,_,b,_⟩:=h;exact z1d q1 s t _ _ _ _ Y b
theorem zno{cl:Int}{r:Rs}{c:Option Cm}(_h:MalO G Y q1 s cl r c):Calls Tryz.prog 212 #[some q1] Y λe w'=>e=.returned (.bool false)/\Below Y.heap.size Y w':=(ztz _ Y).mono (λe w' h=>⟨h.1,h.2▸Below.refl _ _⟩)
theorem zm2{cl:Int}{r:Rs}{c:Option Cm}(h:MalO G Y q1 s cl r c):Calls Tryz.prog 209 #[some q1] Y λe w'=>e=.returned (.bool (Jb.mal r c).done)/\Below Y.heap.size Y w':=zvm h
theorem zrs{cl:Int}{r:Rs}{c:Option Cm}(h:MalO G Y q1 s cl r c):Calls Tryz.prog 213 #[some q1] Y λe w'=>e=.returned (gotV (Jb.mal r c).took)/\Below Y.heap.size Y w':=zux h
theorem zv7{cl:Int}{r:Rs}{c:Option Cm}(h:MalO G Y q1 s cl r c):Calls Tryz.prog 211 #[some q1] Y λe w'=>e=.returned (.int .i64 (Jb.mal r c).err)/\Below Y.heap.size Y w':=zy3 h
theorem zqz{a:Ad}(_h:AdO G Y q1 s a):Calls Tryz.prog 264 #[.agg #[some q1]] Y λe w'=>e=.returned (.bool false)/\Below Y.heap.size Y w':=zy9 _ Y
theorem zti{a:Ad}(h:AdO G Y q1 s a):Calls Tryz.prog 253 #[some q1] Y λe w'=>e=.returned (.bool a.done)/\Below Y.heap.size Y w':=(zxq q1 _ a.done Y h.2 rfl).mono (λe w' h=>⟨h.1,h.2▸Below.refl _ _⟩)
theorem z0p{a:Ad}(_h:AdO G Y q1 s a):Calls Tryz.prog 265 #[.agg #[some q1]] Y λe w'=>e=.returned (gotV none)/\Below Y.heap.size Y w':=zx3 _ Y
theorem z8a{a:Ad}(h:AdO G Y q1 s a):Calls Tryz.prog 263 #[.agg #[some q1]] Y λe w'=>e=.returned (.int .i64 a.err)/\Below Y.heap.size Y w':=zz3 q1 s a Y h.2
end

def PF (c a:Int) (g t:Bool):List Ev:=if g=true/\t=false then [VE c a] else []
def cH (c:Int):Option Blk->List Ev
 |some b=>[GE c b.at' b.len]
 |none=>[]
theorem LK{q sp:Nat}{s:Sh}{k:Kl}{sl:Value}{most:Int}{fs:List Fr}{T:TypeId}{x:Value}{fg fd ft fe:FuncId}{rg rd rt re:Value}{er:Int}{dn:Bool}{tk:Option Blk}{J:World->Prop}{gv:Bool}{w:World}(hk:∀ b,tk=some b->(0<=b.page/\b.page<=64)/\(b.large=false->0<=b.slot/\b.slot<=16)/\(0<=b.pages/\b.pages<=64))(h:aA w q (RB s k false (.iface T x) (.pointer (some ⟨sp,0,.none⟩))) 161)(hs:SK 0 w sp sl most fs)(e7:¬ foot sp sl q)(hJ:J w)(X:∀ Y Y',J Y->Only (λb=>b=q\/w.heap.size<=b) Y Y'->J Y')(m1:∀ W:World,(method (Tryz.prog.types.size+Made.depth) T x "allotment/client.gave").run Tryz.prog W= .ok (fg,rg) W) (m2:∀ W:World,(method (Tryz.prog.types.size+Made.depth) T x "Done").run Tryz.prog W= .ok (fd,rd) W)(f1:∀ W:World,(callFunc fg #[rg]).run Tryz.prog W= .ok (.enter fg #[rg]) W) (f2:∀ W:World,(callFunc fd #[rd]).run Tryz.prog W= .ok (.enter fd #[rd]) W)(m3:∀ W:World,(method (Tryz.prog.types.size+Made.depth) T x "allotment/client.took").run Tryz.prog W= .ok (ft,rt) W) (m4:∀ W:World,(method (Tryz.prog.types.size+Made.depth) T x "allotment/client.err").run Tryz.prog W= .ok (fe,re) W)(f3:∀ W:World,(callFunc ft #[rt]).run Tryz.prog W= .ok (.enter ft #[rt]) W) (f4:∀ W:World,(callFunc fe #[re]).run Tryz.prog W= .ok (.enter fe #[re]) W)(c3:∀ Y,J Y->Calls Tryz.prog ft #[rt] Y λe w'=>e= .returned (gotV tk)/\Below Y.heap.size Y w') (c4:∀ Y,J Y->Calls Tryz.prog fe #[re] Y λe w'=>e= .returned (.int .i64 er)/\Below Y.heap.size Y w')(c1:∀ Y,J Y->Calls Tryz.prog fg #[rg] Y λe w'=>e= .returned (.bool gv)/\Below Y.heap.size Y w') (c2:∀ Y,J Y->Calls Tryz.prog fd #[rd] Y λe w'=>e= .returned (.bool dn)/\Below Y.heap.size Y w'):
  Calls Tryz.prog 125 #[some q] w λr w'=>GL q sp s {k with told:=k.told||gv} dn (.iface T x) sl most fs (PF k.c k.op.a gv k.told++if dn=true then cH k.c tk++[RA k.c k.op (DB tk) er] else []) w w' r:=by
 obtain⟨i0,cb,cf,cg,ch⟩:=info_parts JL;obtain⟨b0,sc,sm⟩:=s;obtain⟨n,kf,⟨ok,oa,on⟩,kj,L,ks⟩:=k;dsimp only[RB]at h|-;simp[go_sem]at m1 m2 m3 m4;replace c1:=hd' (c1 w hJ);replace c2:=hd' c2;replace c3:=hd' c3;replace c4:=hd' c4;have H:=hd' (λY Y' (hY:J Y) (hb:Below Y.heap.size Y Y')=>X Y Y' hY ((Only.of_below (F:=λ_=>False) hb).weak (λ_ e=>e.elim)));replace X:=hd' X;have cj:q<w.heap.size:=h.lt;have lst:∀b,foot sp sl b->b<w.heap.size:=λb hb=>by rcases hb with rfl|hb;exact hs.lt;exact(hs.AF b hb).2
 have lq:q<w.heap.size:=h.lt;have x8:=ce (.iface T x) (h.cell 8);have S:=ce (.bool L) (h.cell 10);go_in;go_upto_region 2 with fail;go_cut [18] (λf5 M=>f5=.bool (gv && !L)/\aA M q #[b0,sc,sm,n,kf,ok,oa,on,.iface T x,.bool false,L,some sp,ks] 161/\SK 0 M sp sl most fs/\J M/\Below w.heap.size w M);case first=>
  cases gv<;>cases L
  .go_wp2_with ((with_reducible refine c1.out.mono ?_);rintro r w1 ⟨rfl,j⟩;have z8:=kA j _ _ _ x8;have cl:=kA j _ _ _ S);go_meet;exact⟨rfl,h.below j,hs.below j,H _ _ hJ j,j⟩
  .go_wp2_with ((with_reducible refine c1.out.mono ?_);rintro r w1 ⟨rfl,j⟩;have z8:=kA j _ _ _ x8;have cl:=kA j _ _ _ S);go_meet;exact⟨rfl,h.below j,hs.below j,H _ _ hJ j,j⟩
  .go_wp2_with ((with_reducible refine c1.out.mono ?_);rintro r w1 ⟨rfl,j⟩;have z8:=kA j _ _ _ x8;have cl:=kA j _ _ _ S);go_meet;exact⟨rfl,h.below j,hs.below j,H _ _ hJ j,j⟩
  go_wp2_with ((with_reducible refine c1.out.mono ?_);rintro r w1 ⟨rfl,j⟩;have z8:=kA j _ _ _ x8;have cl:=kA j _ _ _ S);go_meet;exact⟨rfl,h.below j,hs.below j,H _ _ hJ j,j⟩
 case rest=>
  obtain⟨rfl,h1,b4,b2,j⟩:=hcut;obtain⟨V,rfl⟩:∃V:World,V=wc:=⟨_,rfl⟩;have b5:Only (λb=>b=q\/foot sp sl b) w V:=Only.of_below j;clear h hs hJ x8 S lq c1;have fh:=h1.lt;have ed:=KA h1;have S:=ce (.bool L) (h1.cell 10);go_upto_if 18 with fail;go_cut [3] (λv3 M=>aA M q #[b0,sc,sm,n,kf,ok,oa,on,.iface T x,.bool false,.bool (L||gv),some sp,ks] 161/\SK 0 M sp sl most fs/\J M/\Only (λb=>b=q\/foot sp sl b) w M/\M.ownsRow w.heap.size 62 8 v3 (PF n oa gv L).length ((PF n oa gv L).flatMap λe=>e.cells.toList));case first=>
   cases gv<;>cases L
   .simp only[Bool.false_and,Bool.true_and,Bool.not_true,Bool.not_false];go_wp2;go_meet;exact⟨h1,b4,b2,b5,SH _ _⟩
   .simp only[Bool.false_and,Bool.true_and,Bool.not_true,Bool.not_false];go_wp2;go_meet;exact⟨h1,b4,b2,b5,SH _ _⟩
   .simp only[Bool.false_and,Bool.true_and,Bool.not_true,Bool.not_false];go_upto_region 4 with fail;have h2:=h1.set 10 (.bool true);have oq:Only (λb=>b=q) V (V.setCell ⟨q,10,.none⟩ (.bool true)):=Only.setCell (F:=λb=>b=q) (Only.refl _ _) (.inl rfl) _;have es:=oq.stk b4 (λb hb e=>e7 (e▸hb));have ej:=X _ _ b2 (oq.weak (λb e=>.inl e));have e9:=b5.trans oq (λb _ hb=>.inl hb);replace h2:=h2.cast (cs':=#[b0,sc,sm,n,kf,ok,oa,on,.iface T x,.bool false,.bool true,some sp,ks]) rfl;generalize V.setCell ⟨q,10,.none⟩ (.bool true)=w2 at*;clear h1 b4 b2 b5 S oq ed;have em:=e9.size;have lq:q<w2.heap.size:=h2.lt;have d3:=ci n (h2.cell 3);have d6:=ci oa (h2.cell 6);go_wp2_with fail
    go_region_law
     (first|(refine sG (by rfl) (.tmp 22) (.tmp 33) 59 (by rfl) w.heap.size 62 i0 _ 8 64 Tryz.underlying59 cb cf cg ch rfl (by omega) _ 0 [] (by rfl) (SH _ _) _ 1 (VE n oa).cells.toList (by rfl) (RdS.drew (evRd (VE n oa) w2)) (ML _) (by simp only[maxLen];omega) (by omega) (by simp;omega) ?_;intro v3 w3 l ba f9;have b8:=sE ((Below.refl w.heap.size w2).alloc em (.cells (VE n oa).cells 62)).drew (SH w.heap.size _) (by simp;omega) ba))
    all_goals rw[Nat.zero_add,List.nil_append]at l;go_wp2;go_meet;exact⟨h2.belB b8 cj,(KI b8).stk es (λb hb e=>by have:=lst b hb;omega),X _ _ ej ((KI b8).weak (λb e=>.inr e)),NL e9 b8,l⟩
   simp only[Bool.false_and,Bool.true_and,Bool.not_true,Bool.not_false];go_wp2;go_meet;exact⟨h1,b4,b2,b5,SH _ _⟩
  case rest=>
   obtain⟨h3,cc,c7,bf,l⟩:=hcut
   have cs:=bf.size
   have ey:=h3.lt
   have y8:=ce (.iface T x) (h3.cell 8)
   have bz:=hd' (c2 _ c7)
   obtain⟨V3,rfl⟩:∃V:World,V=wc:=⟨_,rfl⟩
   cases dn with
   |false=>
    go_wp2_with ((with_reducible refine bz.out.mono ?_);rintro r w4 ⟨rfl,m⟩;have y9:=kA m _ _ _ y8)
    go_returns
    refine⟨⟨_,rfl,?_⟩,h3.below m,cc.below m,bf.tb m⟩
    have:=rE l m
    simpa using this
   |true=>
    have e5:(PF n oa gv L).length<=1:=by unfold PF;split<;>simp
    obtain⟨f7,f6,rfl,_,_,_⟩:=RdS.lD l
    go_upto_region 8 with((with_reducible refine bz.out.mono ?_);rintro r w4 ⟨rfl,m⟩;have y9:=kA m _ _ _ y8)
    have h4:=h3.below m
    have e8:=cc.below m
    have c8:=H _ _ c7 m
    have ea:=bf.tb m
    have O:=rE l m
    clear h3 cc c7 bf l cs ey y8 bz y9 c2 m
    have ez:q<w4.heap.size:=h4.lt
    have y8:=ce (.iface T x) (h4.cell 8)
    obtain⟨bl,bp,bs,o,bn,bm,cr⟩:∃bl bp bs o bn,gotV tk=.tuple #[.agg #[.bool bl,.int .i64 bp,.int .i64 bs,.int .i64 o,.int .i64 bn],tk.isSome]/\∀b,tk=some b->b=⟨bl,bp,bs,o,bn⟩:=by
     cases tk with
     |none=>exact⟨_,_,_,_,_,rfl,λb e=>by cases e⟩
     |some b=>exact⟨_,_,_,_,_,rfl,λb' e=>by injection e with e;subst e;rfl⟩
    have b1:=c3 w4 c8
    rw[bm]at b1
    replace b1:=hd' b1
    clear bm
    go_upto_if 50 with((with_reducible refine b1.out.mono ?_);rintro r w5 ⟨rfl,b9⟩)
    have Z:=b9.trans ((Below.refl w4.heap.size w5).alloc b9.size (.cells #[bl,bp,bs,o,bn] 234))
    have B:aA (w5.alloc (.cells #[bl,bp,bs,o,bn] 234)) w5.heap.size #[bl,bp,bs,o,bn] 234:=jA _ _
    generalize w5.alloc (.cells #[bl,bp,bs,o,bn] 234)=w6 at*
    obtain⟨E,ei,bj⟩:=hidv w5.heap.size
    rw[<-bj]at B|-
    clear bj
    have f8:w4.heap.size<=E:=by have:=b9.size;have:=ei.out;omega
    have e6:∀b,Value.ownBlock (.slice f7 (PF n oa gv L).length f6)=some b->b<w4.heap.size:=λb hb=>(O.lt b hb).2
    have h6:=h4.below Z
    have bc:=e8.below Z
    have b7:=H _ _ c8 Z
    have bg:=ea.tb Z
    have C:=rE O Z
    clear h4 e8 c8 ea O ez y8 b1 c3 b9 Z
    obtain⟨N,U⟩:∃N,Hid (N=PF n oa gv L++cH n tk):=⟨_,hd' rfl⟩
    go_cut [3,4] (λv3 v4 M=>v4=.int .i64 (DB tk)/\aA M q #[b0,sc,sm,n,kf,ok,oa,on,.iface T x,.bool false,.bool (L||gv),some sp,ks] 161/\SK 0 M sp sl most fs/\J M/\Only (λb=>b=q\/foot sp sl b) w M/\M.ownsRow w.heap.size 62 8 v3 N.length (N.flatMap λe=>e.cells.toList))
    case first=>
     cases tk with
     |none=>
      have e2:N=PF n oa gv L:=by rw[U];simp[cH]
      simp only[Option.isSome_none]
      go_wp2
      go_meet
      exact⟨rfl,h6,bc,b7,bg,by rw[e2];exact C⟩
     |some bk=>
      have e2:=U.out
      simp only[cH,DB]at e2|-
      obtain⟨cx,cy,cz⟩:=hk bk rfl
      have c5:=hd' (λW=>zjy bk W cx cy)
      have c6:=hd' (λW=>zih bk W cz)
      clear hk cx cy cz
      have ew:Hid (DB (some bk)=bk.at'):=hd' rfl
      generalize bk.at'=bv at*
      generalize bk.len=bx at*
      have el:=cr bk rfl
      subst el
      dsimp only at c5 c6
      simp only[Option.isSome_some]
      have e0:=ce (.bool bl) (B.cell 0)
      have e1:=ci bp (B.cell 1)
      have ec:=ci bs (B.cell 2)
      have e3:=ci o (B.cell 3)
      have e4:=ci bn (B.cell 4)
      have ex:=B.lt
      have cm:=hd' (c5 w6)
      go_upto_region 11 with(go_at_call 146;(with_reducible refine cm.out.mono ?_);rintro r w7 ⟨rfl,p⟩)
      have h7:=h6.below p
      have cd:=bc.below p
      have c9:=H _ _ b7 p
      have bh:=bg.tb p
      have D:=rE C p
      have eg:=B.below p
      clear h6 bc b7 bg C B e0 e1 ec e3 e4 ex cm c5 p
      have fa:=bh.size
      have ca:=h7.drew
      have bu:=eg.drew
      have fj:q<w7.drew.heap.size:=ca.lt
      have fc:E<w7.drew.heap.size:=bu.lt
      have hS:=hd' (λ(Y:World) (hr:aA Y q #[b0,sc,sm,n,kf,ok,oa,on,.iface T x,.bool false,.bool (L||gv),some sp,ks] 161) (hB:aA Y E #[bl,bp,bs,o,bn] 234)=>(⟨hr.cell 3,hB.cell 0,hB.cell 1,hB.cell 2,hB.cell 3,hB.cell 4⟩:Y.cell? ⟨q,3,.none⟩=some (.int .i64 n)/\Y.cell? ⟨E,0,.none⟩=some (.bool bl)/\Y.cell? ⟨E,1,.none⟩=some (.int .i64 bp)/\Y.cell? ⟨E,2,.none⟩=some (.int .i64 bs)/\Y.cell? ⟨E,3,.none⟩=some (.int .i64 o)/\Y.cell? ⟨E,4,.none⟩=some (.int .i64 bn)))
      have ef:=hd' (λW=>c6 W)
      clear c6
      have bb:=rE D br.drew
      go_region_held3 (λY=>Y.cell? ⟨q,3,.none⟩=some (.int .i64 n)/\Y.cell? ⟨E,0,.none⟩=some (.bool bl)/\Y.cell? ⟨E,1,.none⟩=some (.int .i64 bp)/\Y.cell? ⟨E,2,.none⟩=some (.int .i64 bs)/\Y.cell? ⟨E,3,.none⟩=some (.int .i64 o)/\Y.cell? ⟨E,4,.none⟩=some (.int .i64 bn))
       (first|exact hS _ ca bu|exact hS _ h8 b6|exact hS _ (h8.alloc _) (b6.alloc _)|exact hS _ h9 eh)
       (first|(go_at_call 147;(with_reducible refine(ef _).mono ?_);rintro r w8 ⟨rfl,b3⟩;have h8:=ca.below b3;have b6:=bu.below b3;have fb:w7.heap.size<=w8.heap.size:=b3.size;have z:=rE bb b3)|(refine sG (by rfl) (.tmp 53) (.tmp 62) 59 (by rfl) w.heap.size 62 i0 _ 8 64 Tryz.underlying59 cb cf cg ch rfl (by omega) _ (PF n oa gv L).length _ (by rfl) (rE z (br.alloc lr _)) _ 1 (GE n bv bx).cells.toList (by rfl) (evRd (GE n bv bx) _) (ML _) (by simp only[maxLen];omega) (by omega) (by simp;omega) ?_;intro v9 w9 R y cq;have I:=sE ((Below.refl w.heap.size w8).alloc (by omega) (.cells (GE n bv bx).cells 62)) (rE z (br.alloc lr _)) (by simp;omega) y;have h9:=h8.belB I cj;have eh:aA w9 E #[bl,bp,bs,o,bn] 234:=(y.block E (by have:=b6.lt;simp;omega) (λe=>by have:=e6 E e.symm;omega)).trans (b6.alloc _)))
      have bw:Below w7.heap.size w7 w8:=qA br.drew b3
      have ev:=(KI I).stk (cd.below bw) (λb hb e=>by have:=lst b hb;omega)
      have ek:=X _ _ (H _ _ c9 bw) ((KI I).weak (λb e=>.inr e))
      have f0:=NL (bh.tb bw) I
      go_wp2
      go_meet
      refine⟨by rw[ew],h9,ev,ek,f0,?_⟩
      rw[e2,List.length_append,List.flatMap_append,List.flatMap_cons,List.flatMap_nil,List.append_nil]
      exact R
    case rest=>
     obtain⟨rfl,h7,cd,c9,bq,D⟩:=hcut
     obtain⟨V7,rfl⟩:∃V:World,V=wc:=⟨_,rfl⟩
     have ep:N.length<=2:=by
      rw[U,List.length_append]
      have:(cH n tk).length<=1:=by unfold cH;split<;>simp
      omega
     clear h6 bc b7 bg C B e6 e5
     obtain⟨fl,fk,rfl,_,_,_⟩:=RdS.lD D
     have cu:=bq.size
     have fi:=h7.lt
     have y8:=ce (.iface T x) (h7.cell 8)
     have eb:=hd' (c4 _ c9)
     have bi:=hd' (λY (hY:Below V7.heap.size V7 Y)=>sU (s:=⟨b0,sc,sm⟩) (k:=⟨n,kf,⟨ok,oa,on⟩,kj,L||gv,ks⟩) (i:=false) (jv:=.iface T x) er (DB tk) (h7.below hY) (cd.below hY) e7)
     dsimp only[RB,Ev.val,Ev.cells,RA]at bi
     have cp:∀b,w.heap.size<=b->¬(b=q\/foot sp sl b):=λb hb e=>by rcases e with rfl|e;omega;have:=lst b e;omega
     go_wp2_with (first|(go_at_call 97;(with_reducible refine(bi _ p).mono ?_);rintro r w8 ⟨rfl,h8,eu,ck⟩;have z:=MU (rE D p) ck cp;have cv:w.heap.size<=w8.heap.size:=(Nat.le_trans cu (Nat.le_trans p.size ck.size)))|(refine nH rfl (.tmp 64) (.tmp 73) 59 rfl w.heap.size 62 i0 _ 8 64 Tryz.underlying59 cb cf cg ch rfl (by omega) _ N.length _ rfl (rE z (br.alloc lr _)) _ 1 (RA n ⟨ok,oa,on⟩ (DB tk) er).cells.toList rfl (evRd (RA n ⟨ok,oa,on⟩ (DB tk) er) _) (ML _) (by simp only[maxLen];omega) (by omega) (by simp;omega) ?_;intro v9 w9 R y cq;have I:=sE ((Below.refl w.heap.size w8).alloc cv (.cells (RA n ⟨ok,oa,on⟩ (DB tk) er).cells 62)) (rE z (br.alloc lr _)) (by simp;omega) y)|((with_reducible refine eb.out.mono ?_);rintro r w7 ⟨rfl,p⟩))
     go_returns
     have bh:=(bq.tb p).trans ck (λ_ _ e=>e)
     refine⟨⟨_,rfl,?_⟩,h8.belB I cj,(KI I).stk eu (λb hb e=>by rcases hb with rfl|hb;have:=lst b (.inl rfl);omega;cases hb),NL bh I⟩
     rw[<-List.append_assoc,<- U,List.length_append,List.flatMap_append,List.flatMap_cons,List.flatMap_nil,List.append_nil]
     exact R
def JbO (F:Nat->Prop) (w:World) (v:Value) (s:Sh) (cl:Int):Jb->Prop
 |.mal r c=>∃q,v=.iface 203 (.pointer (some ⟨q,0,.none⟩))/\MalO F w q s cl r c
 |.fre f=>∃q,v=.iface 212 (.agg #[.pointer (some ⟨q,0,.none⟩)])/\FeO F w q s f
 |.aga t=>∃q,v=.iface 216 (.agg #[.pointer (some ⟨q,0,.none⟩)])/\RrO F w q s t
 |.hei a=>∃q,v=.iface 220 (.agg #[.pointer (some ⟨q,0,.none⟩)])/\AdO F w q s a
theorem JbO.only{F G:Nat->Prop}{w w':World}{v:Value}{s:Sh}{cl:Int}{j:Jb}(h:JbO F w v s cl j)(b:Only G w w')(hd:∀k,F k->¬G k):JbO F w' v s cl j:=by
 cases j with
 |mal r c=>obtain⟨q,e,h⟩:=h;exact⟨q,e,h.only b hd⟩
 |fre f=>obtain⟨q,e,h⟩:=h;exact⟨q,e,h.only b hd⟩
 |aga t=>obtain⟨q,e,h⟩:=h;exact⟨q,e,h.only b hd⟩
 |hei a=>obtain⟨q,e,h⟩:=h;exact⟨q,e,h.only b hd⟩
theorem JbO.below{F:Nat->Prop}{w w':World}{v:Value}{s:Sh}{cl:Int}{j:Jb}(h:JbO F w v s cl j)(hb:Below w.heap.size w w'):JbO F w' v s cl j:=h.only (Only.of_below (F:=λ_=>False) hb) (λ_ _ e=>e)
theorem vY{s:Sh}{cl:Int}{b:Blk}(h:b.fits s cl=true)(j:s.p<=64)(i:b.large=false->b.pages=0):(0<=b.page/\b.page<=64)/\(b.large=false->0<=b.slot/\b.slot<=16)/\(0<=b.pages/\b.pages<=64):=by
 have h1:=LE.1 h;refine⟨by omega,λf=>?_,?_⟩
 .have h2:=h1.2.2.2.2 f;have:=UD (by omega:0<mA b.k);omega
 cases f:b.large
 .rw[i f];omega
 have:=h1.2.2.2.1 f;omega
theorem kW{t:Rs}{b:Blk}(f:t.got=some b):b.large=false->b.pages=0:=by
 intro i;obtain⟨k,pg,sk,rn⟩:=t;rcases sk with _|x
 .rcases rn with _|y
  .cases f
  unfold Rs.got at f;dsimp only at f;split at f
  .injection f with f;subst f;cases i
  cases f
 unfold Rs.got at f;dsimp only at f;split at f
 .injection f with f;subst f;rfl
 cases f
theorem PT{s:Sh}{cl:Int}{j:Jb}{b:Blk}(h:jbIs s cl j)(n:mayB s.p s.c s.m=true)(hc:0<=cl/\cl<s.c)(l:j.took=some b):b.fits s cl=true/\(b.large=false->b.pages=0):=by
 cases j with
 |mal r c=>
  have i:(if RC c=true then r.got else none)=some b:=l;split at i
  .exact⟨(TG h.1 n hc i).1,kW i⟩
  cases i
 |fre f=>cases l;|aga t=>
  have i:(if t.done=true/\t.err=0 then(match t.res with|some x=>x.got|none=>none) else none)=some b:=l;split at i
  .rcases hr:t.res with _|r
   .rw[hr]at i;cases i
   rw[hr]at i;exact⟨(TG (h.res r hr) n hc i).1,kW i⟩
  cases i
 |hei a=>cases l
theorem z6y{q sp:Nat}{G:Nat->Prop}{s:Sh}{k:Kl}{jv sl:Value}{most:Int}{fs:List Fr}{j:Jb}{w:World}(h:aA w q (RB s k false jv (.pointer (some ⟨sp,0,.none⟩))) 161)(hs:SK 0 w sp sl most fs)(z:¬foot sp sl q)(l:JbO G w jv s k.c j)(I:∀b,G b->b≠q/\¬foot sp sl b)(C:∀b,G b->b<w.heap.size)(D:jbIs s k.c j) (E:mayB s.p s.c s.m=true) (hc:0<=k.c/\k.c<s.c):
  Calls Tryz.prog 125 #[some q] w λr w'=>GL q sp s {k with told:=k.told||j.gave} j.done jv sl most fs (k.tells j) w w' r:=by
 have hb:=JA.1 E;have y:=λb F=>vY (PT D E hc (b:=b) F).1 (by omega) (PT D E hc F).2;have o:∀Y n,JbO G Y jv s k.c j->Only (λb=>b=q\/w.heap.size<=b) Y n->JbO G n jv s k.c j:=λY n h1 L=>h1.only L λb h2 e=>by
  rcases e with e|e
  .exact(I b h2).1 e
  have:=C b h2;omega
 have H:k.tells j=PF k.c k.op.a j.gave k.told++if j.done=true then cH k.c j.took++[RA k.c k.op (DB j.took) j.err] else []:=by unfold Kl.tells PF cH;cases j.gave<;>cases j.done<;>cases k.told<;>cases j.took<;>simp
 rw[H];cases j with
 |mal r c=>
  obtain⟨q1,rfl,l⟩:=l
  exact LK (J:=λY=>MalO G Y q1 s k.c r c) y h hs z l (λY n h1 h2=>by obtain⟨q2,e,h3⟩:=o Y n ⟨q1,rfl,h1⟩ h2;cases e;exact h3)
   (λ_=>by kernel_rfl) (λ_=>by kernel_rfl) (λ_=>by kernel_rfl) (λ_=>by kernel_rfl) (λ_=>by kernel_rfl) (λ_=>by kernel_rfl) (λ_=>by kernel_rfl) (λ_=>by kernel_rfl)
   (λY i=>zrs i) (λY i=>zv7 i) (λY i=>zno i) (λY i=>zm2 i)
 |fre f=>
  obtain⟨q1,rfl,l⟩:=l
  exact LK (J:=λY=>FeO G Y q1 s f) y h hs z l (λY n h1 h2=>by obtain⟨q2,e,h3⟩:=o Y n ⟨q1,rfl,h1⟩ h2;cases e;exact h3)
   (λ_=>by kernel_rfl) (λ_=>by kernel_rfl) (λ_=>by kernel_rfl) (λ_=>by kernel_rfl) (λ_=>by kernel_rfl) (λ_=>by kernel_rfl) (λ_=>by kernel_rfl) (λ_=>by kernel_rfl)
   (λY i=>zm8 i) (λY i=>zqy i) (λY i=>zgh i) (λY i=>zf9 i)
 |aga t=>
  obtain⟨q1,rfl,l⟩:=l;have B:t.done=true->t.err=0->∃r,t.res=some r:=λh1 h2=>by obtain⟨r,b,f,e,_⟩:=D.fin h1 h2;exact⟨r,e⟩
  exact LK (J:=λY=>RrO G Y q1 s t) y h hs z l (λY n h1 h2=>by obtain⟨q2,e,h3⟩:=o Y n ⟨q1,rfl,h1⟩ h2;cases e;exact h3)
   (λ_=>by kernel_rfl) (λ_=>by kernel_rfl) (λ_=>by kernel_rfl) (λ_=>by kernel_rfl) (λ_=>by kernel_rfl) (λ_=>by kernel_rfl) (λ_=>by kernel_rfl) (λ_=>by kernel_rfl)
   (λY i=>zgc B i) (λY i=>zii i) (λY i=>zd8 i) (λY i=>zd5 i)
 |hei a=>
  obtain⟨q1,rfl,l⟩:=l
  exact LK (J:=λY=>AdO G Y q1 s a) y h hs z l (λY n h1 h2=>by obtain⟨q2,e,h3⟩:=o Y n ⟨q1,rfl,h1⟩ h2;cases e;exact h3)
   (λ_=>by kernel_rfl) (λ_=>by kernel_rfl) (λ_=>by kernel_rfl) (λ_=>by kernel_rfl) (λ_=>by kernel_rfl) (λ_=>by kernel_rfl) (λ_=>by kernel_rfl) (λ_=>by kernel_rfl)
   (λY i=>z0p i) (λY i=>z8a i) (λY i=>zqz i) (λY i=>zti i)
theorem z7m{s:Sh}{cl:Int}{r:Rs}{c:Option Cm}(h:jbIs s cl (.mal r c))(hd:(Jb.mal r c).done=false):r.done=false\/(r.done=true/\c=none/\∃b,r.got=some b):=by
 have f:(r.done&&(!r.got.isSome||RC c))=false:=hd;cases hrd:r.done
 .exact .inl rfl
 rw[hrd,Bool.true_and,Bool.or_eq_false_iff]at f;refine .inr ⟨rfl,?_,?_⟩
 .rcases hc:c with _|x
  .rfl
  have:=h.2 x hc;have i:=f.2;rw[hc]at i;have i:x.done=false:=i;rw[this.2.1]at i;cases i
 rcases hg:r.got with _|b
 .have j:=f.1;rw[hg]at j;cases j
 exact⟨b,rfl⟩
structure wH (G:Nat->Prop) (p b:Nat) (w w':World) (jv:Value) (s:Sh) (cl:Int) (j:Jb) (m:Mem):Prop where
 wds:oA w' p b (j.step s cl m).2
 only:Only (λk=>G k\/k=p\/k=b) w w'
 job:JbO (grow G w w') w' jv s cl (j.step s cl m).1
theorem KK{q p B1 B2:Nat}{T:TypeId}{x r0:Value}{f:FuncId}{w:World}{Q:Ending->World->Prop}(h1:w.cell? ⟨B1,0,.none⟩=some (.pointer (some ⟨q,0,.none⟩)))(h2:w.cell? ⟨B2,0,.none⟩=some (.pointer (some ⟨p,0,.none⟩)))(n:B1<w.heap.size)(o:B2<w.heap.size)(t:q<w.heap.size)(m:w.cell? ⟨q,8,.none⟩=some (.iface T x)) (m1:∀ W:World,(method (Tryz.prog.types.size+Made.depth) T x "Step").run Tryz.prog W= .ok (f,r0) W) (f1:∀ W:World,(callFunc f #[r0,some p]).run Tryz.prog W= .ok (.enter f #[r0,some p]) W)(b:∀ Y,jW w Y->Calls Tryz.prog f #[r0,some p] Y λe w'=>e= .returned (.tuple #[])/\Q e w'):
  Calls Tryz.prog 123 #[some B1,some B2] w λe w'=>e=.returned (.tuple #[])/\Q e w':=by
 replace b:=hd' b;simp[go_sem]at m1;go_in;go_wp2_with fail;refine wret 5 ?_;repeat (go_big_quiet_step (fail))
 refine wqn λZ i=>?_;have j:=i;go_wp2_with ((with_reducible refine(b _ j).mono ?_);rintro r y ⟨rfl,l⟩);go_returns;exact⟨rfl,l⟩
theorem PI{G:Nat->Prop}{w Y Z:World}(hb:Below w.heap.size w Y)(hs:Y.heap.size<=Z.heap.size):∀k,grow G Y Z k->grow G w Z k:=λk b=>b.imp id (λh=>⟨Nat.le_trans hb.size h.1,h.2⟩)
theorem wH.mk'{G:Nat->Prop}{p b:Nat}{w Y Z:World}{jv:Value}{s:Sh}{cl:Int}{j:Jb}{m:Mem}(hb:Below w.heap.size w Y)(h1:oA Z p b (j.step s cl m).2)(h2:Only (λk=>G k\/k=p\/k=b) Y Z)(h3:JbO (grow G w Z) Z jv s cl (j.step s cl m).1):wH G p b w Z jv s cl j m:=
 ⟨h1,(Only.of_below (F:=λk=>G k\/k=p\/k=b) hb).trans h2 (λ_ _ e=>e),h3⟩
theorem z6s{G:Nat->Prop}{q p b B1 B2:Nat}{s:Sh}{cl:Int}{j:Jb}{m:Mem}{w:World}{jv:Value}(h1:w.cell? ⟨B1,0,.none⟩=some (.pointer (some ⟨q,0,.none⟩)))(h2:w.cell? ⟨B2,0,.none⟩=some (.pointer (some ⟨p,0,.none⟩)))(J:B1<w.heap.size)(L:B2<w.heap.size)(M:q<w.heap.size)(E:w.cell? ⟨q,8,.none⟩=some jv) (o:JbO G w jv s cl j) (B:∀k,G k->k<w.heap.size) (I:oA w p b m) (H:¬G p) (hb:¬G b) (F:Fits s m) (z:jbIs s cl j) (hd:j.done=false) (hs:m.st<1000000000):
  Calls Tryz.prog 123 #[some B1,some B2] w λe w'=>e=.returned (.tuple #[])/\wH G p b w w' jv s cl j m:=by
 cases j with
 |mal r c=>
  obtain⟨q1,rfl,o⟩:=o;refine KK h1 h2 J L M E (λ_=>by kernel_rfl) (λ_=>by kernel_rfl) (Q:=λ_ w'=>wH G p b w w' _ s cl (.mal r c) m) λY i=>(zt8 (o.below i) (I.below i) H hb F ⟨λx y=>(z.1.sk x y).1.ok,λx y=>(z.1.rn x y).ok⟩ hs (z7m z hd)).mono λe w' hS=>?_;obtain⟨n,Z,c',V,C⟩:=hS;refine⟨n.ret,.mk' i n.wds n.only ?_⟩;rw[V];obtain⟨a1,N,R,X,S,D,T,U,O⟩:=C;refine⟨q1,rfl,λk l=>?_,PI i n.only.size _ N,R,X,S,λk l=>⟨PI i n.only.size _ (D k l).1,(D k l).2⟩,T,U,λx y=>⟨⟨PI i n.only.size _ (O x y).1.1,(O x y).1.2⟩,(O x y).2⟩⟩;rcases l with l|l
  .exact Nat.lt_of_lt_of_le (B k l) (Nat.le_trans i.size n.only.size)
  exact l.2
 |fre f=>obtain⟨q1,rfl,o⟩:=o;refine KK h1 h2 J L M E (λ_=>by kernel_rfl) (λ_=>by kernel_rfl) (Q:=λ_ w'=>wH G p b w w' _ s cl (.fre f) m) λY i=>(sX (o.below i) (I.below i) H hb F z.ok hs).mono λe w' hS=>?_;obtain⟨n,C⟩:=hS;refine⟨n.ret,.mk' i n.wds n.only ?_⟩;obtain⟨a1,R,N,D⟩:=C;exact⟨q1,rfl,PI i n.only.size _ a1,R,N,λh=>PI i n.only.size _ (D h)⟩
 |aga t=>
  obtain⟨q1,rfl,o⟩:=o;refine KK h1 h2 J L M E (λ_=>by kernel_rfl) (λ_=>by kernel_rfl) (Q:=λ_ w'=>wH G p b w w' _ s cl (.aga t) m) λY i=>(zza (o.below i) (I.below i) H hb F z.ok hs).mono λe w' hS=>?_;obtain⟨n,C⟩:=hS;refine⟨n.ret,.mk' i n.wds n.only ⟨q1,rfl,C.weak (PI i n.only.size) λk l=>?_⟩⟩;rcases l with l|l
  .exact Nat.lt_of_lt_of_le (B k l) (Nat.le_trans i.size n.only.size)
  exact l.2
 |hei a=>
  obtain⟨q1,rfl,o⟩:=o;refine KK h1 h2 J L M E (λ_=>by kernel_rfl) (λ_=>by kernel_rfl) (Q:=λ_ w'=>wH G p b w w' _ s cl (.hei a) m) λY i=>(zyd q1 p b s a m Y (o.below i).2 (I.below i) (λe=>H (e▸o.1)) (λe=>hb (e▸o.1)) F z.1 hs).mono λe w' hS=>?_;refine⟨hS.ret,.mk' i hS.wds (hS.only.weak λk l=>?_) ⟨q1,rfl,.inl o.1,hS.row⟩⟩;rcases l with rfl|l|l
  .exact .inl o.1
  .exact .inr (.inl l)
  exact .inr (.inr l)
theorem LQ{c m C M:Int}(hc:0<=c/\c<=C)(b:0<=m/\m<=M):0<=c*m/\c*m<=C*M:=by
 refine⟨Int.mul_nonneg hc.1 b.1,?_⟩;exact Int.le_trans (Int.mul_le_mul_of_nonneg_right hc.2 b.1) (Int.mul_le_mul_of_nonneg_left b.2 (by omega))
theorem MV{s:Sh}(h:mayB s.p s.c s.m=true):xB s.p s.c s.m=s.c+s.p+s.p*16+s.c*s.m/\18<=xB s.p s.c s.m/\xB s.p s.c s.m<=1196:=by
 have hb:=JA.1 h;have b:=LQ (c:=s.c) (m:=s.m) (C:=12) (M:=8) (by omega) (by omega);have:xB s.p s.c s.m=s.c+s.p+s.p*16+s.c*s.m:=by unfold xB;rw[jP h]
 omega
theorem zv0(s:Sh)(w:World):
  Calls Tryz.prog 72 #[.agg #[s.p,s.c,s.m]] w λe w'=>e=.returned (.int .i64 (xB s.p s.c s.m))/\Below w.heap.size w w':=by
 obtain⟨p,c,m⟩:=s;dsimp only;by_cases h1:mayB p c m=true
 .have hb:=JA.1 h1;have n:=LQ (c:=c) (m:=m) (C:=12) (M:=8) (by omega) (by omega);have j:xB p c m=c+p+p*16+c*m:=by unfold xB;rw[jP h1]
  have l:=wrp (c+p);have o:=wrp (16*p);have q:=wrp (c+p+16*p);have r:=wrp (c*m);have t:=wrp (c+p+16*p+c*m);have b:=λW=>pG p c m W;rw[h1]at b;replace b:=hd' b;rw[show xB p c m=c+p+16*p+c*m by omega];clear j n hb h1;go_in;go_wp2_with (go_at_call 21;refine(b _).mono ?_;rintro e l ⟨rfl,rfl⟩);go_ret;exact⟨rfl,by go_grown⟩
 have i:mayB p c m=false:=by simpa using h1
 have j:xB p c m=0:=by unfold xB;rw[jN h1]
 have b:=λW=>pG p c m W;rw[i]at b;replace b:=hd' b;rw[j];clear h1 i j;go_in;go_wp2_with (go_at_call 21;refine(b _).mono ?_;rintro e l ⟨rfl,rfl⟩);go_ret;exact⟨rfl,by go_grown⟩
end

end Go.Proofs.YtkilokkopbajkaaGreat
