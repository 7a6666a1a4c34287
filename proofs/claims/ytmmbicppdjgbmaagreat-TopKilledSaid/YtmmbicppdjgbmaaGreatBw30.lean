/- Lemmas for the claim. -/
import Derived.Test.YtmmbicppdjgbmaaGreatBw27

import Derived.Test.YtmmbicppdjgbmaaGreatBw29

set_option linter.all false
set_option maxHeartbeats 4000000
set_option maxRecDepth 100000
namespace Go.Proofs.YtmmbicppdjgbmaaGreat

attribute [local go_sem] SA EA CG

section

open Go.RowKit

attribute [local go_sem ↓] Go.wp_at_zero Go.wp_at_succ

def GB (s:Sh) (k:Kl) (idle:Bool) (jv sv:Value):Array Value:= #[s.p,s.c,s.m,k.c,k.first,k.op.k,k.op.a,k.op.n,jv,idle,k.told,sv,k.steps]
attribute [local go_sem] GB

theorem WT{q sp:Nat}{s:Sh}{k:Kl}{i:Bool}{jv sl:Value}{most:Int}{fs:List Fr}(x at':Int){w:World}(h:aA w q (GB s k i jv (.pointer (some ⟨sp,0,.none⟩))) 132)(hs:SK 0 w sp sl most fs)(S:¬ foot sp sl q):
  Calls Tryz.prog 68 #[some q,x,at'] w fun r w'=>r= .returned (RA k.c k.op at' x).val/\aA w' q (GB s k true .nilIface (.pointer (some ⟨sp,0,.none⟩))) 132/\SK 0 w' sp (.slice none 0 0) most []/\Only (fun b=>b=q\/foot sp sl b) w w':=by
 unfold Ev.val Ev.cells RA;dsimp only;obtain⟨b2,sc,sm⟩:=s;obtain⟨n,kf,⟨ok,oa,on⟩,kj,kt,ks⟩:=k;dsimp only[GB]at h ⊢;have B:=(Below.refl w.heap.size w).alloc lr (.cells #[.int .i64 0,.int .i64 0,.int .i64 0,.int .i64 0,.int .i64 0,.int .i64 0,.int .i64 0,.int .i64 0] 68);have hE:aA (w.alloc (.cells #[.int .i64 0,.int .i64 0,.int .i64 0,.int .i64 0,.int .i64 0,.int .i64 0,.int .i64 0,.int .i64 0] 68)) w.heap.size #[.int .i64 0,.int .i64 0,.int .i64 0,.int .i64 0,.int .i64 0,.int .i64 0,.int .i64 0,.int .i64 0] 68:=jA _ _;have lq:q<w.heap.size:=h.lt;go_in;go_upto_region 1 with fail;have M:=h.below B;have b0:=hs.below B;generalize w.alloc (.cells #[.int .i64 0,.int .i64 0,.int .i64 0,.int .i64 0,.int .i64 0,.int .i64 0,.int .i64 0,.int .i64 0] 68)=X at *;obtain⟨E,bi,D⟩:=hidv w.heap.size;rw[<-D]at hE ⊢;have l:w.heap.size<=E:=by omega
 have j:q≠E:=by omega
 have J:∀ b,foot sp sl b->b≠E:=fun b hb=>by
  rcases hb with rfl|hb
  ·have:=hs.lt;omega
  have:=hs.pE b hb;omega
 have b1:sp≠E:=J sp (.inl rfl);clear D;have lX:q<X.heap.size:=M.lt;have fX:=DA M;have b3:=M.cell;go_upto_region 2 with fail;have m:=(M.set 9 (.bool true)).set 8 .nilIface;have H:∀ b,foot sp sl b->b≠q:=fun b hb e=>S (e ▸ hb);have V:SK 0 ((X.setCell ⟨q,9,.none⟩ (.bool true)).setCell ⟨q,8,.none⟩ .nilIface) sp sl most fs:=b0.blocks fun b hb=>by rw[Below.heap_setCell _ ⟨q,8,.none⟩ _ b (H b hb),Below.heap_setCell _ ⟨q,9,.none⟩ _ b (H b hb)]
 have L:=(hE.other (fun e=>j e.symm) 9 (.bool true)).other (fun e=>j e.symm) 8 .nilIface;have O:Only (fun b=>b=q\/foot sp sl b) w ((X.setCell ⟨q,9,.none⟩ (.bool true)).setCell ⟨q,8,.none⟩ .nilIface):=Only.setCell (F:=fun b=>b=q\/foot sp sl b) (Only.setCell (F:=fun b=>b=q\/foot sp sl b) (Only.of_below B) (.inl (.inl rfl)) _) (.inl (.inl rfl)) _;generalize (X.setCell ⟨q,9,.none⟩ (.bool true)).setCell ⟨q,8,.none⟩ .nilIface=Y at *;clear b3 lX fX M b0 hs B;replace m:=m.cast (cs':= #[b2,sc,sm,n,kf,ok,oa,on,.nilIface,.bool true,kt,some sp,ks]) rfl;have lY:q<Y.heap.size:=m.lt;have b4:=m.cell;have N:=hd' (zq6 V);go_upto_region 3 with(go_at_call 106;(with_reducible refine N.out.mono ?_);rintro r w1 ⟨rfl,C,T⟩);have y:=m.only C S;have I:=L.only C (fun hb=>J E hb rfl);have R:=O.trans C (fun b _ hb=>.inr hb);clear lY b4 N m L O C V J;have bg:q<w1.heap.size:=y.lt;have bf:E<w1.heap.size:=I.lt;have b5:=y.cell;refine wret 11 ?_;repeat (go_big_quiet_step (fail))
 refine wqn fun Z z=>?_;have b6:=y.below z;have o:=I.below z;have bc:=T.below z;have b9:=R.trans (Only.of_below (F:=fun _=>False) z) (fun _ _ hb=>hb.elim);clear bg bf b5 y I T R;have lE:E<Z.heap.size:=o.lt;have fE:=DA o;have bh:=o.cell;go_wp2_with fail;have hF:aA ((((((((Z.setCell ⟨E,0,.none⟩ (.int .i64 5)).setCell ⟨E,1,.none⟩ (.int .i64 n)).setCell ⟨E,2,.none⟩ (.int .i64 ok)).setCell ⟨E,3,.none⟩ (.int .i64 oa)).setCell ⟨E,4,.none⟩ (.int .i64 on)).setCell ⟨E,5,.none⟩ (.int .i64 at')).setCell ⟨E,6,.none⟩ (.int .i64 0)).setCell ⟨E,7,.none⟩ (.int .i64 x)) E #[.int .i64 5,n,ok,oa,on,at',.int .i64 0,x] 68:=((((((((o.set 0 (.int .i64 5)).set 1 (.int .i64 n)).set 2 (.int .i64 ok)).set 3 (.int .i64 oa)).set 4 (.int .i64 on)).set 5 (.int .i64 at')).set 6 (.int .i64 0)).set 7 (.int .i64 x));have ba:aA ((((((((Z.setCell ⟨E,0,.none⟩ (.int .i64 5)).setCell ⟨E,1,.none⟩ (.int .i64 n)).setCell ⟨E,2,.none⟩ (.int .i64 ok)).setCell ⟨E,3,.none⟩ (.int .i64 oa)).setCell ⟨E,4,.none⟩ (.int .i64 on)).setCell ⟨E,5,.none⟩ (.int .i64 at')).setCell ⟨E,6,.none⟩ (.int .i64 0)).setCell ⟨E,7,.none⟩ (.int .i64 x)) q #[b2,sc,sm,n,kf,ok,oa,on,.nilIface,.bool true,kt,some sp,ks] 132:=((((((((b6.other j 0 (.int .i64 5)).other j 1 (.int .i64 n)).other j 2 (.int .i64 ok)).other j 3 (.int .i64 oa)).other j 4 (.int .i64 on)).other j 5 (.int .i64 at')).other j 6 (.int .i64 0)).other j 7 (.int .i64 x));have b8:Only (fun b=>b=q\/foot sp sl b) w ((((((((Z.setCell ⟨E,0,.none⟩ (.int .i64 5)).setCell ⟨E,1,.none⟩ (.int .i64 n)).setCell ⟨E,2,.none⟩ (.int .i64 ok)).setCell ⟨E,3,.none⟩ (.int .i64 oa)).setCell ⟨E,4,.none⟩ (.int .i64 on)).setCell ⟨E,5,.none⟩ (.int .i64 at')).setCell ⟨E,6,.none⟩ (.int .i64 0)).setCell ⟨E,7,.none⟩ (.int .i64 x)):=((((((((b9.setCell (p:=⟨E,0,.none⟩) (.inr l) (.int .i64 5)).setCell (p:=⟨E,1,.none⟩) (.inr l) (.int .i64 n)).setCell (p:=⟨E,2,.none⟩) (.inr l) (.int .i64 ok)).setCell (p:=⟨E,3,.none⟩) (.inr l) (.int .i64 oa)).setCell (p:=⟨E,4,.none⟩) (.inr l) (.int .i64 on)).setCell (p:=⟨E,5,.none⟩) (.inr l) (.int .i64 at')).setCell (p:=⟨E,6,.none⟩) (.inr l) (.int .i64 0)).setCell (p:=⟨E,7,.none⟩) (.inr l) (.int .i64 x));have bb:SK 0 ((((((((Z.setCell ⟨E,0,.none⟩ (.int .i64 5)).setCell ⟨E,1,.none⟩ (.int .i64 n)).setCell ⟨E,2,.none⟩ (.int .i64 ok)).setCell ⟨E,3,.none⟩ (.int .i64 oa)).setCell ⟨E,4,.none⟩ (.int .i64 on)).setCell ⟨E,5,.none⟩ (.int .i64 at')).setCell ⟨E,6,.none⟩ (.int .i64 0)).setCell ⟨E,7,.none⟩ (.int .i64 x)) sp (.slice none 0 0) most []:=bc.blocks fun b hb=>by
  have b7:b≠E:=by
   rcases hb with rfl|hb
   ·exact b1
   cases hb
  simp only[Below.heap_setCell _ ⟨E,_,.none⟩ _ b b7]
 generalize (((((((Z.setCell ⟨E,0,.none⟩ (.int .i64 5)).setCell ⟨E,1,.none⟩ (.int .i64 n)).setCell ⟨E,2,.none⟩ (.int .i64 ok)).setCell ⟨E,3,.none⟩ (.int .i64 oa)).setCell ⟨E,4,.none⟩ (.int .i64 on)).setCell ⟨E,5,.none⟩ (.int .i64 at')).setCell ⟨E,6,.none⟩ (.int .i64 0)).setCell ⟨E,7,.none⟩ (.int .i64 x)=U at *;obtain⟨r0,r1,r2,r3,r4,r5,r6,r7⟩:=ci8 5 n ok oa on at' 0 x hF.cell;exact bodyPost_ret (v:= .agg #[.int .i64 5,n,ok,oa,on,at',.int .i64 0,x]) (by simp[results,Tryz.results68,go_sem,r0,r1,r2,r3,r4,r5,r6,r7]) rfl ⟨rfl,ba,bb,b8⟩
end

section

attribute [local go_sem] GB

open Go.RowKit

theorem OK:(Tryz.prog.info? 68).map (fun i=>(i.zero,i.size,i.bytes))=some (some (.agg #[.int .i64 0,.int .i64 0,.int .i64 0,.int .i64 0,.int .i64 0,.int .i64 0,.int .i64 0,.int .i64 0]),8,64):=by kernel_rfl
theorem DH(B:Nat)(w:World):w.ownsRow B 68 8 (.slice none 0 0) 0 []:=⟨by simp,.inl ⟨rfl,rfl⟩⟩
theorem QK(e:Ev):∀ u ∈ e.cells.toList,u.oneCell'=true:=by
 intro u hu;simp only[Ev.cells,List.mem_cons,List.not_mem_nil,or_false]at hu;rcases hu with rfl|rfl|rfl|rfl|rfl|rfl|rfl|rfl<;>rfl
theorem evRd(e:Ev)(X:World):RdS (X.alloc (.cells e.cells 68)) 8 (.slice (some ⟨X.heap.size,0,.none⟩) 1 1) 1 e.cells.toList:=RdS.new (jA _ _) rfl (by decide)
theorem ZD{w w':World}{B:Nat}{E:TypeId}{size:Nat}{v:Value}{n:Nat}{xs:List Value}(h:w.ownsRow B E size v n xs)(hb:Below w.heap.size w w'):w'.ownsRow B E size v n xs:=
 PB h fun k b=>hb.block k (h.lt k b).2
theorem tU{w w':World}{B:Nat}{F:Nat->Prop}{E:TypeId}{size:Nat}{v:Value}{n:Nat}{xs:List Value}(h:w.ownsRow B E size v n xs)(j:Only F w w')(i:∀ b,B<=b->¬ F b):w'.ownsRow B E size v n xs:=
 PB h fun k f=>j.block k (h.lt k f).2 (i k (h.lt k f).1)
theorem aA.belB{B:Nat}{w w':World}{q:Nat}{cs:Array Value}{T:TypeId}(h:aA w q cs T)(hb:Below B w w')(b:q<B):aA w' q cs T:=(hb.block q b).trans h
theorem RK{F:Nat->Prop}{w X Y:World}(h:Only F w X)(hb:Below w.heap.size X Y):Only F w Y:=
 ⟨hb.os.trans h.os,hb.tape.trans h.tape,hb.output.trans h.output,Nat.le_trans h.size hb.size,fun k b f=>(hb.block k b).trans (h.block k b f)⟩
theorem iI{B:Nat}{w w':World}(hb:Below B w w'):Only (fun b=>B<=b) w w':=⟨hb.os,hb.tape,hb.output,hb.size,fun k _ f=>hb.block k (by omega)⟩
def AdO (F:Nat->Prop) (w:World) (q:Nat) (s:Sh) (a:Ad):Prop:=F q/\aA w q (EA s a) 256
theorem AdO.only{F G:Nat->Prop}{w w':World}{q:Nat}{s:Sh}{a:Ad}(h:AdO F w q s a)(b:Only G w w')(hd:∀ k,F k->¬ G k):AdO F w' q s a:=⟨h.1,h.2.only b (hd q h.1)⟩
theorem AdO.below{F:Nat->Prop}{w w':World}{q:Nat}{s:Sh}{a:Ad}(h:AdO F w q s a)(hb:Below w.heap.size w w'):AdO F w' q s a:=⟨h.1,h.2.below hb⟩
theorem FeO.below{F:Nat->Prop}{w w':World}{q:Nat}{s:Sh}{t:Fe}(h:FeO F w q s t)(hb:Below w.heap.size w w'):FeO F w' q s t:=h.only (Only.of_below (F:=fun _=>False) hb) (fun _ _ e=>e)
theorem MalO.below{F:Nat->Prop}{w w':World}{q:Nat}{s:Sh}{cl:Int}{r:Rs}{c:Option Cm}(h:MalO F w q s cl r c)(hb:Below w.heap.size w w'):MalO F w' q s cl r c:=h.only (Only.of_below (F:=fun _=>False) hb) (fun _ _ e=>e)
structure LK (q sp:Nat) (s:Sh) (k:Kl) (d:Bool) (jv sl:Value) (most:Int) (fs:List Fr) (es:List Ev) (w w':World) (r:Ending):Prop where
 ret:∃ v,r= .returned v/\w'.ownsRow w.heap.size 68 8 v es.length (es.flatMap fun e=> e.cells.toList)
 row:aA w' q (GB s k d (if d=true then .nilIface else jv) (.pointer (some ⟨sp,0,.none⟩))) 132
 stk:SK 0 w' sp (if d=true then .slice none 0 0 else sl) most (if d=true then [] else fs)
 only:Only (fun b=> b=q\/foot sp sl b) w w'
section

attribute [local go_sem] GB

variable {G:Nat->Prop} {Y:World} {q1:Nat} {s:Sh}

theorem zgh{f:Fe}(h:FeO G Y q1 s f):Calls Tryz.prog 250 #[.agg #[some q1]] Y fun e w'=>e= .returned (.bool f.gave)/\Below Y.heap.size Y w':=by
 obtain⟨_,q2,h3,_⟩:=h;exact zxu q1 _ f.gave Y h3.row rfl
theorem zf9{f:Fe}(h:FeO G Y q1 s f):Calls Tryz.prog 158 #[some q1] Y fun e w'=>e= .returned (.bool f.done)/\Below Y.heap.size Y w':=by
 obtain⟨_,q2,h3,_⟩:=h;exact(eP q1 _ f.done Y h3.row rfl).mono (fun e w' h=>⟨h.1,h.2 ▸ Below.refl _ _⟩)
theorem zm8{f:Fe}(_h:FeO G Y q1 s f):Calls Tryz.prog 251 #[.agg #[some q1]] Y fun e w'=>e= .returned (gotV none)/\Below Y.heap.size Y w':=zze _ Y
theorem zqy{f:Fe}(h:FeO G Y q1 s f):Calls Tryz.prog 249 #[.agg #[some q1]] Y fun e w'=>e= .returned (.int .i64 (Jb.fre f).err)/\Below Y.heap.size Y w':=by
 obtain⟨_,q2,h3,_⟩:=h;exact z2s q1 _ f.gave Y h3.row rfl
theorem zd8{t:Rr}(h:RrO G Y q1 s t):Calls Tryz.prog 256 #[.agg #[some q1]] Y fun e w'=>e= .returned (.bool (Jb.aga t).gave)/\Below Y.heap.size Y w':=zyz h
theorem zd5{t:Rr}(h:RrO G Y q1 s t):Calls Tryz.prog 252 #[some q1] Y fun e w'=>e= .returned (.bool t.done)/\Below Y.heap.size Y w':=by
 obtain⟨_,_,_,_,_,_,_,_,_,_,b,_⟩:=h;exact(zzc q1 _ t.done Y b rfl).mono (fun e w' h=>⟨h.1,h.2 ▸ Below.refl _ _⟩)
theorem zgc{t:Rr}(hd:t.done=true->t.err=0->∃ r,t.res=some r)(h:RrO G Y q1 s t):Calls Tryz.prog 257 #[.agg #[some q1]] Y fun e w'=>e= .returned (gotV (Jb.aga t).took)/\Below Y.heap.size Y w':=zzp h hd
theorem zii{t:Rr}(h:RrO G Y q1 s t):Calls Tryz.prog 255 #[.agg #[some q1]] Y fun e w'=>e= .returned (.int .i64 (Jb.aga t).err)/\Below Y.heap.size Y w':=by
 obtain⟨_,_,_,_,_,_,_,_,_,_,b,_⟩:=h;exact z1d q1 s t _ _ _ _ Y b
theorem zno{cl:Int}{r:Rs}{c:Option Cm}(_h:MalO G Y q1 s cl r c):Calls Tryz.prog 220 #[some q1] Y fun e w'=>e= .returned (.bool false)/\Below Y.heap.size Y w':=(ztz _ Y).mono (fun e w' h=>⟨h.1,h.2 ▸ Below.refl _ _⟩)
theorem zm2{cl:Int}{r:Rs}{c:Option Cm}(h:MalO G Y q1 s cl r c):Calls Tryz.prog 217 #[some q1] Y fun e w'=>e= .returned (.bool (Jb.mal r c).done)/\Below Y.heap.size Y w':=zvm h
theorem zrs{cl:Int}{r:Rs}{c:Option Cm}(h:MalO G Y q1 s cl r c):Calls Tryz.prog 221 #[some q1] Y fun e w'=>e= .returned (gotV (Jb.mal r c).took)/\Below Y.heap.size Y w':=zux h
theorem zv7{cl:Int}{r:Rs}{c:Option Cm}(h:MalO G Y q1 s cl r c):Calls Tryz.prog 219 #[some q1] Y fun e w'=>e= .returned (.int .i64 (Jb.mal r c).err)/\Below Y.heap.size Y w':=zy3 h
theorem zqz{a:Ad}(_h:AdO G Y q1 s a):Calls Tryz.prog 272 #[.agg #[some q1]] Y fun e w'=>e= .returned (.bool false)/\Below Y.heap.size Y w':=zy9 _ Y
theorem zti{a:Ad}(h:AdO G Y q1 s a):Calls Tryz.prog 261 #[some q1] Y fun e w'=>e= .returned (.bool a.done)/\Below Y.heap.size Y w':=(zxq q1 _ a.done Y h.2 rfl).mono (fun e w' h=>⟨h.1,h.2 ▸ Below.refl _ _⟩)
theorem z0p{a:Ad}(_h:AdO G Y q1 s a):Calls Tryz.prog 273 #[.agg #[some q1]] Y fun e w'=>e= .returned (gotV none)/\Below Y.heap.size Y w':=zx3 _ Y
theorem z8a{a:Ad}(h:AdO G Y q1 s a):Calls Tryz.prog 271 #[.agg #[some q1]] Y fun e w'=>e= .returned (.int .i64 a.err)/\Below Y.heap.size Y w':=zz3 q1 s a Y h.2
end

end

section

attribute [local go_sem] GB

open Go.RowKit

attribute [local go_sem ↓] Go.wp_at_zero Go.wp_at_succ

def EF (c a:Int) (g t:Bool):List Ev:=if g=true/\t=false then [LE c a] else []
def PG (c:Int):Option Blk->List Ev
 | some b=> [yE c b.at' b.len]
 | none=> []
theorem bK{q sp:Nat}{s:Sh}{k:Kl}{sl:Value}{most:Int}{fs:List Fr}{T:TypeId}{x:Value}{fg fd ft fe:FuncId}{rg rd rt re:Value}{er:Int}{dn:Bool}{tk:Option Blk}{J:World->Prop}{gv:Bool}{w:World}(hk:∀ b,tk=some b->(0<=b.page/\b.page<=64)/\(b.large=false->0<=b.slot/\b.slot<=16)/\(0<=b.pages/\b.pages<=64))(h:aA w q (GB s k false (.iface T x) (.pointer (some ⟨sp,0,.none⟩))) 132)(hs:SK 0 w sp sl most fs)(e7:¬ foot sp sl q)(hJ:J w)(X:∀ Y Y',J Y->Only (fun b=>b=q\/w.heap.size<=b) Y Y'->J Y')(m1:∀ W:World,(method (Tryz.prog.types.size+Made.depth) T x "allotment/client.gave").run Tryz.prog W= .ok (fg,rg) W) (m2:∀ W:World,(method (Tryz.prog.types.size+Made.depth) T x "Done").run Tryz.prog W= .ok (fd,rd) W)(f1:∀ W:World,(callFunc fg #[rg]).run Tryz.prog W= .ok (.enter fg #[rg]) W) (f2:∀ W:World,(callFunc fd #[rd]).run Tryz.prog W= .ok (.enter fd #[rd]) W)(m3:∀ W:World,(method (Tryz.prog.types.size+Made.depth) T x "allotment/client.took").run Tryz.prog W= .ok (ft,rt) W) (m4:∀ W:World,(method (Tryz.prog.types.size+Made.depth) T x "allotment/client.err").run Tryz.prog W= .ok (fe,re) W)(f3:∀ W:World,(callFunc ft #[rt]).run Tryz.prog W= .ok (.enter ft #[rt]) W) (f4:∀ W:World,(callFunc fe #[re]).run Tryz.prog W= .ok (.enter fe #[re]) W)(c3:∀ Y,J Y->Calls Tryz.prog ft #[rt] Y fun e w'=>e= .returned (gotV tk)/\Below Y.heap.size Y w') (c4:∀ Y,J Y->Calls Tryz.prog fe #[re] Y fun e w'=>e= .returned (.int .i64 er)/\Below Y.heap.size Y w')(c1:∀ Y,J Y->Calls Tryz.prog fg #[rg] Y fun e w'=>e= .returned (.bool gv)/\Below Y.heap.size Y w') (c2:∀ Y,J Y->Calls Tryz.prog fd #[rd] Y fun e w'=>e= .returned (.bool dn)/\Below Y.heap.size Y w'):
  Calls Tryz.prog 101 #[some q] w fun r w'=>LK q sp s {k with told:=k.told||gv} dn (.iface T x) sl most fs (EF k.c k.op.a gv k.told++if dn=true then PG k.c tk++[RA k.c k.op (yB tk) er] else []) w w' r:=by
 obtain⟨i0,cb,cf,cg,ch⟩:=info_parts OK;obtain⟨b0,sc,sm⟩:=s;obtain⟨n,kf,⟨ok,oa,on⟩,kj,L,ks⟩:=k;dsimp only[GB]at h ⊢;simp[go_sem]at m1 m2 m3 m4;replace c1:=hd' (c1 w hJ);replace c2:=hd' c2;replace c3:=hd' c3;replace c4:=hd' c4;have H:=hd' (fun Y Y' (hY:J Y) (hb:Below Y.heap.size Y Y')=>X Y Y' hY ((Only.of_below (F:=fun _=>False) hb).weak (fun _ e=>e.elim)));replace X:=hd' X;have cj:q<w.heap.size:=h.lt;have lst:∀ b,foot sp sl b->b<w.heap.size:=fun b hb=>by rcases hb with rfl|hb;exact hs.lt;exact(hs.pE b hb).2
 have lq:q<w.heap.size:=h.lt;have x8:=ce (.iface T x) (h.cell 8);have S:=ce (.bool L) (h.cell 10);go_in;go_upto_region 2 with fail;go_cut [18] (fun f5 M=>f5= .bool (gv && !L)/\aA M q #[b0,sc,sm,n,kf,ok,oa,on,.iface T x,.bool false,L,some sp,ks] 132/\SK 0 M sp sl most fs/\J M/\Below w.heap.size w M);case first=>
  cases gv<;>cases L
  ·go_wp2_with ((with_reducible refine c1.out.mono ?_);rintro r w1 ⟨rfl,j⟩;have z8:=kA j _ _ _ x8;have cl:=kA j _ _ _ S);go_meet;exact⟨rfl,h.below j,hs.below j,H _ _ hJ j,j⟩
  ·go_wp2_with ((with_reducible refine c1.out.mono ?_);rintro r w1 ⟨rfl,j⟩;have z8:=kA j _ _ _ x8;have cl:=kA j _ _ _ S);go_meet;exact⟨rfl,h.below j,hs.below j,H _ _ hJ j,j⟩
  ·go_wp2_with ((with_reducible refine c1.out.mono ?_);rintro r w1 ⟨rfl,j⟩;have z8:=kA j _ _ _ x8;have cl:=kA j _ _ _ S);go_meet;exact⟨rfl,h.below j,hs.below j,H _ _ hJ j,j⟩
  go_wp2_with ((with_reducible refine c1.out.mono ?_);rintro r w1 ⟨rfl,j⟩;have z8:=kA j _ _ _ x8;have cl:=kA j _ _ _ S);go_meet;exact⟨rfl,h.below j,hs.below j,H _ _ hJ j,j⟩
 case rest=>
  obtain⟨rfl,h1,b4,b2,j⟩:=hcut;obtain⟨V,rfl⟩:∃ V:World,V=wc:=⟨_,rfl⟩;have b5:Only (fun b=>b=q\/foot sp sl b) w V:=Only.of_below j;clear h hs hJ x8 S lq c1;have fh:=h1.lt;have ed:=DA h1;have S:=ce (.bool L) (h1.cell 10);go_upto_if 18 with fail;go_cut [3] (fun v3 M=>aA M q #[b0,sc,sm,n,kf,ok,oa,on,.iface T x,.bool false,.bool (L||gv),some sp,ks] 132/\SK 0 M sp sl most fs/\J M/\Only (fun b=>b=q\/foot sp sl b) w M/\M.ownsRow w.heap.size 68 8 v3 (EF n oa gv L).length ((EF n oa gv L).flatMap fun e=>e.cells.toList));case first=>
   cases gv<;>cases L
   ·simp only[Bool.false_and,Bool.true_and,Bool.not_true,Bool.not_false];go_wp2;go_meet;exact⟨h1,b4,b2,b5,DH _ _⟩
   ·simp only[Bool.false_and,Bool.true_and,Bool.not_true,Bool.not_false];go_wp2;go_meet;exact⟨h1,b4,b2,b5,DH _ _⟩
   ·simp only[Bool.false_and,Bool.true_and,Bool.not_true,Bool.not_false];go_upto_region 4 with fail;have h2:=h1.set 10 (.bool true);have oq:Only (fun b=>b=q) V (V.setCell ⟨q,10,.none⟩ (.bool true)):=Only.setCell (F:=fun b=>b=q) (Only.refl _ _) (.inl rfl) _;have es:=oq.stk b4 (fun b hb e=>e7 (e ▸ hb));have ej:=X _ _ b2 (oq.weak (fun b e=>.inl e));have e9:=b5.trans oq (fun b _ hb=>.inl hb);replace h2:=h2.cast (cs':= #[b0,sc,sm,n,kf,ok,oa,on,.iface T x,.bool false,.bool true,some sp,ks]) rfl;generalize V.setCell ⟨q,10,.none⟩ (.bool true)=w2 at *;clear h1 b4 b2 b5 S oq ed;have em:=e9.size;have lq:q<w2.heap.size:=h2.lt;have d3:=ci n (h2.cell 3);have d6:=ci oa (h2.cell 6);go_wp2_with fail
    go_region_law
     (first|(refine cG (by rfl) (.tmp 22) (.tmp 33) 43 (by rfl) w.heap.size 68 i0 _ 8 64 Tryz.underlying43 cb cf cg ch rfl (by omega) _ 0 [] (by rfl) (DH _ _) _ 1 (LE n oa).cells.toList (by rfl) (RdS.drew (evRd (LE n oa) w2)) (QK _) (by simp only[maxLen];omega) (by omega) (by simp;omega) ?_;intro v3 w3 l ba f9;have b8:=bE ((Below.refl w.heap.size w2).alloc em (.cells (LE n oa).cells 68)).drew (DH w.heap.size _) (by simp;omega) ba))
    all_goals rw[Nat.zero_add,List.nil_append]at l;go_wp2;go_meet;exact⟨h2.belB b8 cj,(iI b8).stk es (fun b hb e=>by have:=lst b hb;omega),X _ _ ej ((iI b8).weak (fun b e=>.inr e)),RK e9 b8,l⟩
   simp only[Bool.false_and,Bool.true_and,Bool.not_true,Bool.not_false];go_wp2;go_meet;exact⟨h1,b4,b2,b5,DH _ _⟩
  case rest=>
   obtain⟨h3,cc,c7,bf,l⟩:=hcut
   have cs:=bf.size
   have ey:=h3.lt
   have y8:=ce (.iface T x) (h3.cell 8)
   have bz:=hd' (c2 _ c7)
   obtain⟨V3,rfl⟩:∃ V:World,V=wc:=⟨_,rfl⟩
   cases dn with
   |false=>
    go_wp2_with ((with_reducible refine bz.out.mono ?_);rintro r w4 ⟨rfl,m⟩;have y9:=kA m _ _ _ y8)
    go_returns
    refine⟨⟨_,rfl,?_⟩,h3.below m,cc.below m,bf.tb m⟩
    have:=ZD l m
    simpa using this
   |true=>
    have e5:(EF n oa gv L).length<=1:=by unfold EF;split<;>simp
    obtain⟨f7,f6,rfl,_,_,_⟩:=RdS.AC l
    go_upto_region 8 with((with_reducible refine bz.out.mono ?_);rintro r w4 ⟨rfl,m⟩;have y9:=kA m _ _ _ y8)
    have h4:=h3.below m
    have e8:=cc.below m
    have c8:=H _ _ c7 m
    have ea:=bf.tb m
    have O:=ZD l m
    clear h3 cc c7 bf l cs ey y8 bz y9 c2 m
    have ez:q<w4.heap.size:=h4.lt
    have y8:=ce (.iface T x) (h4.cell 8)
    obtain⟨bl,bp,bs,o,bn,bm,cr⟩:∃ bl bp bs o bn,gotV tk= .tuple #[.agg #[.bool bl,.int .i64 bp,.int .i64 bs,.int .i64 o,.int .i64 bn],tk.isSome]/\∀ b,tk=some b->b=⟨bl,bp,bs,o,bn⟩:=by
     cases tk with
     |none=>exact⟨_,_,_,_,_,rfl,fun b e=>by cases e⟩
     |some b=>exact⟨_,_,_,_,_,rfl,fun b' e=>by injection e with e;subst e;rfl⟩
    have b1:=c3 w4 c8
    rw[bm]at b1
    replace b1:=hd' b1
    clear bm
    go_upto_if 50 with((with_reducible refine b1.out.mono ?_);rintro r w5 ⟨rfl,b9⟩)
    have Z:=b9.trans ((Below.refl w4.heap.size w5).alloc b9.size (.cells #[bl,bp,bs,o,bn] 238))
    have B:aA (w5.alloc (.cells #[bl,bp,bs,o,bn] 238)) w5.heap.size #[bl,bp,bs,o,bn] 238:=jA _ _
    generalize w5.alloc (.cells #[bl,bp,bs,o,bn] 238)=w6 at *
    obtain⟨E,ei,bj⟩:=hidv w5.heap.size
    rw[<-bj]at B ⊢
    clear bj
    have f8:w4.heap.size<=E:=by have:=b9.size;have:=ei.out;omega
    have e6:∀ b,Value.ownBlock (.slice f7 (EF n oa gv L).length f6)=some b->b<w4.heap.size:=fun b hb=>(O.lt b hb).2
    have h6:=h4.below Z
    have bc:=e8.below Z
    have b7:=H _ _ c8 Z
    have bg:=ea.tb Z
    have C:=ZD O Z
    clear h4 e8 c8 ea O ez y8 b1 c3 b9 Z
    obtain⟨N,U⟩:∃ N,Hid (N=EF n oa gv L++PG n tk):=⟨_,hd' rfl⟩
    go_cut [3,4] (fun v3 v4 M=>v4= .int .i64 (yB tk)/\aA M q #[b0,sc,sm,n,kf,ok,oa,on,.iface T x,.bool false,.bool (L||gv),some sp,ks] 132/\SK 0 M sp sl most fs/\J M/\Only (fun b=>b=q\/foot sp sl b) w M/\M.ownsRow w.heap.size 68 8 v3 N.length (N.flatMap fun e=>e.cells.toList))
    case first=>
     cases tk with
     |none=>
      have e2:N=EF n oa gv L:=by rw[U];simp[PG]
      simp only[Option.isSome_none]
      go_wp2
      go_meet
      exact⟨rfl,h6,bc,b7,bg,by rw[e2];exact C⟩
     |some bk=>
      have e2:=U.out
      simp only[PG,yB]at e2 ⊢
      obtain⟨cx,cy,cz⟩:=hk bk rfl
      have c5:=hd' (fun W=>zjy bk W cx cy)
      have c6:=hd' (fun W=>zih bk W cz)
      clear hk cx cy cz
      have ew:Hid (yB (some bk)=bk.at'):=hd' rfl
      generalize bk.at'=bv at *
      generalize bk.len=bx at *
      have el:=cr bk rfl
      subst el
      dsimp only at c5 c6
      simp only[Option.isSome_some]
      have e0:=ce (.bool bl) (B.cell 0)
      have e1:=ci bp (B.cell 1)
      have ec:=ci bs (B.cell 2)
      have e3:=ci o (B.cell 3)
      have e4:=ci bn (B.cell 4)
      have ex:=B.lt
      have cm:=hd' (c5 w6)
      go_upto_region 11 with(go_at_call 127;(with_reducible refine cm.out.mono ?_);rintro r w7 ⟨rfl,p⟩)
      have h7:=h6.below p
      have cd:=bc.below p
      have c9:=H _ _ b7 p
      have bh:=bg.tb p
      have D:=ZD C p
      have eg:=B.below p
      clear h6 bc b7 bg C B e0 e1 ec e3 e4 ex cm c5 p
      have fa:=bh.size
      have ca:=h7.drew
      have bu:=eg.drew
      have fj:q<w7.drew.heap.size:=ca.lt
      have fc:E<w7.drew.heap.size:=bu.lt
      have hS:=hd' (fun (Y:World) (hr:aA Y q #[b0,sc,sm,n,kf,ok,oa,on,.iface T x,.bool false,.bool (L||gv),some sp,ks] 132) (hB:aA Y E #[bl,bp,bs,o,bn] 238)=>(⟨hr.cell 3,hB.cell 0,hB.cell 1,hB.cell 2,hB.cell 3,hB.cell 4⟩:Y.cell? ⟨q,3,.none⟩=some (.int .i64 n)/\Y.cell? ⟨E,0,.none⟩=some (.bool bl)/\Y.cell? ⟨E,1,.none⟩=some (.int .i64 bp)/\Y.cell? ⟨E,2,.none⟩=some (.int .i64 bs)/\Y.cell? ⟨E,3,.none⟩=some (.int .i64 o)/\Y.cell? ⟨E,4,.none⟩=some (.int .i64 bn)))
      have ef:=hd' (fun W=>c6 W)
      clear c6
      have bb:=ZD D br.drew
      go_region_held3 (fun Y=>Y.cell? ⟨q,3,.none⟩=some (.int .i64 n)/\Y.cell? ⟨E,0,.none⟩=some (.bool bl)/\Y.cell? ⟨E,1,.none⟩=some (.int .i64 bp)/\Y.cell? ⟨E,2,.none⟩=some (.int .i64 bs)/\Y.cell? ⟨E,3,.none⟩=some (.int .i64 o)/\Y.cell? ⟨E,4,.none⟩=some (.int .i64 bn))
       (first|exact hS _ ca bu|exact hS _ h8 b6|exact hS _ (h8.alloc _) (b6.alloc _)|exact hS _ h9 eh)
       (first|(go_at_call 128;(with_reducible refine(ef _).mono ?_);rintro r w8 ⟨rfl,b3⟩;have h8:=ca.below b3;have b6:=bu.below b3;have fb:w7.heap.size<=w8.heap.size:=b3.size;have z:=ZD bb b3)|(refine cG (by rfl) (.tmp 53) (.tmp 62) 43 (by rfl) w.heap.size 68 i0 _ 8 64 Tryz.underlying43 cb cf cg ch rfl (by omega) _ (EF n oa gv L).length _ (by rfl) (ZD z (br.alloc lr _)) _ 1 (yE n bv bx).cells.toList (by rfl) (evRd (yE n bv bx) _) (QK _) (by simp only[maxLen];omega) (by omega) (by simp;omega) ?_;intro v9 w9 R y cq;have I:=bE ((Below.refl w.heap.size w8).alloc (by omega) (.cells (yE n bv bx).cells 68)) (ZD z (br.alloc lr _)) (by simp;omega) y;have h9:=h8.belB I cj;have eh:aA w9 E #[bl,bp,bs,o,bn] 238:=(y.block E (by have:=b6.lt;simp;omega) (fun e=>by have:=e6 E e.symm;omega)).trans (b6.alloc _)))
      have bw:Below w7.heap.size w7 w8:=zA br.drew b3
      have ev:=(iI I).stk (cd.below bw) (fun b hb e=>by have:=lst b hb;omega)
      have ek:=X _ _ (H _ _ c9 bw) ((iI I).weak (fun b e=>.inr e))
      have f0:=RK (bh.tb bw) I
      go_wp2
      go_meet
      refine⟨by rw[ew],h9,ev,ek,f0,?_⟩
      rw[e2,List.length_append,List.flatMap_append,List.flatMap_cons,List.flatMap_nil,List.append_nil]
      exact R
    case rest=>
     obtain⟨rfl,h7,cd,c9,bq,D⟩:=hcut
     obtain⟨V7,rfl⟩:∃ V:World,V=wc:=⟨_,rfl⟩
     have ep:N.length<=2:=by
      rw[U,List.length_append]
      have:(PG n tk).length<=1:=by unfold PG;split<;>simp
      omega
     clear h6 bc b7 bg C B e6 e5
     obtain⟨fl,fk,rfl,_,_,_⟩:=RdS.AC D
     have cu:=bq.size
     have fi:=h7.lt
     have y8:=ce (.iface T x) (h7.cell 8)
     have eb:=hd' (c4 _ c9)
     have bi:=hd' (fun Y (hY:Below V7.heap.size V7 Y)=>WT (s:=⟨b0,sc,sm⟩) (k:=⟨n,kf,⟨ok,oa,on⟩,kj,L||gv,ks⟩) (i:=false) (jv:= .iface T x) er (yB tk) (h7.below hY) (cd.below hY) e7)
     dsimp only[GB,Ev.val,Ev.cells,RA]at bi
     have cp:∀ b,w.heap.size<=b->¬ (b=q\/foot sp sl b):=fun b hb e=>by rcases e with rfl|e;omega;have:=lst b e;omega
     go_wp2_with (first|(go_at_call 68;(with_reducible refine(bi _ p).mono ?_);rintro r w8 ⟨rfl,h8,eu,ck⟩;have z:=tU (ZD D p) ck cp;have cv:w.heap.size<=w8.heap.size:=(Nat.le_trans cu (Nat.le_trans p.size ck.size)))|(refine AG rfl (.tmp 64) (.tmp 73) 43 rfl w.heap.size 68 i0 _ 8 64 Tryz.underlying43 cb cf cg ch rfl (by omega) _ N.length _ rfl (ZD z (br.alloc lr _)) _ 1 (RA n ⟨ok,oa,on⟩ (yB tk) er).cells.toList rfl (evRd (RA n ⟨ok,oa,on⟩ (yB tk) er) _) (QK _) (by simp only[maxLen];omega) (by omega) (by simp;omega) ?_;intro v9 w9 R y cq;have I:=bE ((Below.refl w.heap.size w8).alloc cv (.cells (RA n ⟨ok,oa,on⟩ (yB tk) er).cells 68)) (ZD z (br.alloc lr _)) (by simp;omega) y)|((with_reducible refine eb.out.mono ?_);rintro r w7 ⟨rfl,p⟩))
     go_returns
     have bh:=(bq.tb p).trans ck (fun _ _ e=>e)
     refine⟨⟨_,rfl,?_⟩,h8.belB I cj,(iI I).stk eu (fun b hb e=>by rcases hb with rfl|hb;have:=lst b (.inl rfl);omega;cases hb),RK bh I⟩
     rw[<-List.append_assoc,<- U,List.length_append,List.flatMap_append,List.flatMap_cons,List.flatMap_nil,List.append_nil]
     exact R
end

section

attribute [local go_sem] GB

open Go.RowKit

def JbO (F:Nat->Prop) (w:World) (v:Value) (s:Sh) (cl:Int):Jb->Prop
 | .mal r c=> ∃ q,v= .iface 200 (.pointer (some ⟨q,0,.none⟩))/\MalO F w q s cl r c
 | .fre f=> ∃ q,v= .iface 209 (.agg #[.pointer (some ⟨q,0,.none⟩)])/\FeO F w q s f
 | .aga t=> ∃ q,v= .iface 213 (.agg #[.pointer (some ⟨q,0,.none⟩)])/\RrO F w q s t
 | .hei a=> ∃ q,v= .iface 217 (.agg #[.pointer (some ⟨q,0,.none⟩)])/\AdO F w q s a
theorem JbO.only{F G:Nat->Prop}{w w':World}{v:Value}{s:Sh}{cl:Int}{j:Jb}(h:JbO F w v s cl j)(b:Only G w w')(hd:∀ k,F k->¬ G k):JbO F w' v s cl j:=by
 cases j with
 |mal r c=>obtain⟨q,e,h⟩:=h;exact⟨q,e,h.only b hd⟩
 |fre f=>obtain⟨q,e,h⟩:=h;exact⟨q,e,h.only b hd⟩
 |aga t=>obtain⟨q,e,h⟩:=h;exact⟨q,e,h.only b hd⟩
 |hei a=>obtain⟨q,e,h⟩:=h;exact⟨q,e,h.only b hd⟩
theorem JbO.below{F:Nat->Prop}{w w':World}{v:Value}{s:Sh}{cl:Int}{j:Jb}(h:JbO F w v s cl j)(hb:Below w.heap.size w w'):JbO F w' v s cl j:=h.only (Only.of_below (F:=fun _=>False) hb) (fun _ _ e=>e)
theorem QX{s:Sh}{cl:Int}{b:Blk}(h:b.fits s cl=true)(j:s.p<=64)(i:b.large=false->b.pages=0):(0<=b.page/\b.page<=64)/\(b.large=false->0<=b.slot/\b.slot<=16)/\(0<=b.pages/\b.pages<=64):=by
 have h1:=DE.1 h;refine⟨by omega,fun f=>?_,?_⟩
 ·have h2:=h1.2.2.2.2 f;have:=JD (by omega:0<mA b.k);omega
 cases f:b.large
 ·rw[i f];omega
 have:=h1.2.2.2.1 f;omega
theorem LV{t:Rs}{b:Blk}(f:t.got=some b):b.large=false->b.pages=0:=by
 intro i;obtain⟨k,pg,sk,rn⟩:=t;rcases sk with _|x
 ·rcases rn with _|y
  ·cases f
  unfold Rs.got at f;dsimp only at f;split at f
  ·injection f with f;subst f;cases i
  cases f
 unfold Rs.got at f;dsimp only at f;split at f
 ·injection f with f;subst f;rfl
 cases f
theorem qT{s:Sh}{cl:Int}{j:Jb}{b:Blk}(h:jbIs s cl j)(n:mayB s.p s.c s.m=true)(hc:0<=cl/\cl<s.c)(l:j.took=some b):b.fits s cl=true/\(b.large=false->b.pages=0):=by
 cases j with
 |mal r c=>
  have i:(if IC c=true then r.got else none)=some b:=l;split at i
  ·exact⟨(IG h.1 n hc i).1,LV i⟩
  cases i
 |fre f=>cases l;|aga t=>
  have i:(if t.done=true/\t.err=0 then(match t.res with|some x=>x.got|none=>none) else none)=some b:=l;split at i
  ·rcases hr:t.res with _|r
   ·rw[hr]at i;cases i
   rw[hr]at i;exact⟨(IG (h.res r hr) n hc i).1,LV i⟩
  cases i
 |hei a=>cases l
theorem z6y{q sp:Nat}{G:Nat->Prop}{s:Sh}{k:Kl}{jv sl:Value}{most:Int}{fs:List Fr}{j:Jb}{w:World}(h:aA w q (GB s k false jv (.pointer (some ⟨sp,0,.none⟩))) 132)(hs:SK 0 w sp sl most fs)(z:¬ foot sp sl q)(l:JbO G w jv s k.c j)(I:∀ b,G b->b≠q/\¬ foot sp sl b)(C:∀ b,G b->b<w.heap.size)(D:jbIs s k.c j) (E:mayB s.p s.c s.m=true) (hc:0<=k.c/\k.c<s.c):
  Calls Tryz.prog 101 #[some q] w fun r w'=>LK q sp s {k with told:=k.told||j.gave} j.done jv sl most fs (k.tells j) w w' r:=by
 have hb:=LA.1 E;have y:=fun b F=>QX (qT D E hc (b:=b) F).1 (by omega) (qT D E hc F).2;have o:∀ Y n,JbO G Y jv s k.c j->Only (fun b=>b=q\/w.heap.size<=b) Y n->JbO G n jv s k.c j:=fun Y n h1 L=>h1.only L fun b h2 e=>by
  rcases e with e|e
  ·exact(I b h2).1 e
  have:=C b h2;omega
 have H:k.tells j=EF k.c k.op.a j.gave k.told++if j.done=true then PG k.c j.took++[RA k.c k.op (yB j.took) j.err] else []:=by unfold Kl.tells EF PG;cases j.gave<;>cases j.done<;>cases k.told<;>cases j.took<;>simp
 rw[H];cases j with
 |mal r c=>
  obtain⟨q1,rfl,l⟩:=l
  exact bK (J:=fun Y=>MalO G Y q1 s k.c r c) y h hs z l (fun Y n h1 h2=>by obtain⟨q2,e,h3⟩:=o Y n ⟨q1,rfl,h1⟩ h2;cases e;exact h3)
   (fun _=>by kernel_rfl) (fun _=>by kernel_rfl) (fun _=>by kernel_rfl) (fun _=>by kernel_rfl) (fun _=>by kernel_rfl) (fun _=>by kernel_rfl) (fun _=>by kernel_rfl) (fun _=>by kernel_rfl)
   (fun Y i=>zrs i) (fun Y i=>zv7 i) (fun Y i=>zno i) (fun Y i=>zm2 i)
 |fre f=>
  obtain⟨q1,rfl,l⟩:=l
  exact bK (J:=fun Y=>FeO G Y q1 s f) y h hs z l (fun Y n h1 h2=>by obtain⟨q2,e,h3⟩:=o Y n ⟨q1,rfl,h1⟩ h2;cases e;exact h3)
   (fun _=>by kernel_rfl) (fun _=>by kernel_rfl) (fun _=>by kernel_rfl) (fun _=>by kernel_rfl) (fun _=>by kernel_rfl) (fun _=>by kernel_rfl) (fun _=>by kernel_rfl) (fun _=>by kernel_rfl)
   (fun Y i=>zm8 i) (fun Y i=>zqy i) (fun Y i=>zgh i) (fun Y i=>zf9 i)
 |aga t=>
  obtain⟨q1,rfl,l⟩:=l;have B:t.done=true->t.err=0->∃ r,t.res=some r:=fun h1 h2=>by obtain⟨r,b,f,e,_⟩:=D.fin h1 h2;exact⟨r,e⟩
  exact bK (J:=fun Y=>RrO G Y q1 s t) y h hs z l (fun Y n h1 h2=>by obtain⟨q2,e,h3⟩:=o Y n ⟨q1,rfl,h1⟩ h2;cases e;exact h3)
   (fun _=>by kernel_rfl) (fun _=>by kernel_rfl) (fun _=>by kernel_rfl) (fun _=>by kernel_rfl) (fun _=>by kernel_rfl) (fun _=>by kernel_rfl) (fun _=>by kernel_rfl) (fun _=>by kernel_rfl)
   (fun Y i=>zgc B i) (fun Y i=>zii i) (fun Y i=>zd8 i) (fun Y i=>zd5 i)
 |hei a=>
  obtain⟨q1,rfl,l⟩:=l
  exact bK (J:=fun Y=>AdO G Y q1 s a) y h hs z l (fun Y n h1 h2=>by obtain⟨q2,e,h3⟩:=o Y n ⟨q1,rfl,h1⟩ h2;cases e;exact h3)
   (fun _=>by kernel_rfl) (fun _=>by kernel_rfl) (fun _=>by kernel_rfl) (fun _=>by kernel_rfl) (fun _=>by kernel_rfl) (fun _=>by kernel_rfl) (fun _=>by kernel_rfl) (fun _=>by kernel_rfl)
   (fun Y i=>z0p i) (fun Y i=>z8a i) (fun Y i=>zqz i) (fun Y i=>zti i)
end

section

attribute [local go_sem] GB

open Go.RowKit

attribute [local go_sem ↓] Go.wp_at_zero Go.wp_at_succ

def iF (k:Kl):List Fr:=match k.job with
 | some _=> [⟨k.op.k,k.steps, [k.op.a,k.op.n,0,0,0,0,0,0]⟩]
 | none=> []
structure KlO (F:Nat->Prop) (w:World) (q:Nat) (s:Sh) (k:Kl):Prop where
 lt:∀ b,F b->b < w.heap.size
 own:F q
 at':∃ sp sl jv G,aA w q (GB s k (!k.job.isSome) jv (.pointer (some ⟨sp,0,.none⟩))) 132/\SK 0 w sp sl 1 (iF k)/\(∀ b,foot sp sl b->F b/\b≠q)/\(∀ b,G b->F b/\b≠q/\¬ foot sp sl b)/\(k.job=none->jv= .nilIface)/\(∀ j,k.job=some j->JbO G w jv s k.c j)
theorem KlO.only{F G:Nat->Prop}{w w':World}{q:Nat}{s:Sh}{k:Kl}(h:KlO F w q s k)(f:Only G w w')(hd:∀ b,F b->¬ G b):KlO F w' q s k:=by
 obtain⟨h1,h2,sp,sl,jv,H,a1,m,i,l,n,o⟩:=h;exact⟨fun b hb=>Nat.lt_of_lt_of_le (h1 b hb) f.size,h2,sp,sl,jv,H,a1.only f (hd q h2),f.stk m (fun b hb=>hd b (i b hb).1),i,l,n,fun j p=>(o j p).only f (fun b hb=>hd b (l b hb).1)⟩
theorem KlO.below{F:Nat->Prop}{w w':World}{q:Nat}{s:Sh}{k:Kl}(h:KlO F w q s k)(hb:Below w.heap.size w w'):KlO F w' q s k:=h.only (Only.of_below (F:=fun _=>False) hb) (fun _ _ e=>e)
theorem KlO.weak{F G:Nat->Prop}{w:World}{q:Nat}{s:Sh}{k:Kl}(h:KlO F w q s k)(f:∀ b,F b->G b)(o:∀ b,G b->b<w.heap.size):KlO G w q s k:=by
 obtain⟨h1,h2,sp,sl,jv,H,a1,l,i,j,m,n⟩:=h;exact⟨o,f q h2,sp,sl,jv,H,a1,l,fun b hb=>⟨f b (i b hb).1,(i b hb).2⟩,fun b hb=>⟨f b (j b hb).1,(j b hb).2⟩,m,n⟩
theorem ztx{q sp:Nat}{s:Sh}{k:Kl}{jv sl:Value}{most:Int}{fs:List Fr}{w:World}(i:Bool)(h:aA w q (GB s k i jv (.pointer (some ⟨sp,0,.none⟩))) 132)(hs:SK 0 w sp sl most fs)(j:i=false->fs.length=1):
  Calls Tryz.prog 65 #[some q] w fun e w'=>e= .returned (.bool i)/\w'=w:=by
 have n:q<w.heap.size:=h.lt;have m:=h.cell;have b:=TK hs;cases i
 ·rw[j rfl]at b;replace b:=hd' b;clear h hs j;go_in;go_wp2_with (go_at_call 102;(with_reducible refine b.out.mono ?_);rintro r o ⟨rfl,l⟩;obtain rfl:=l.symm);go_returns;exact⟨rfl,rfl⟩
 clear h hs j b;go_in;go_wp2_with fail;go_returns;exact⟨rfl,rfl⟩
theorem KlO.rests{F:Nat->Prop}{w:World}{q:Nat}{s:Sh}{k:Kl}(h:KlO F w q s k):Calls Tryz.prog 65 #[some q] w fun e w'=>e= .returned (.bool k.rests)/\w'=w:=by
 obtain⟨h1,h2,sp,sl,jv,H,a1,b,i,l,m,n⟩:=h;refine ztx (!k.job.isSome) a1 b (fun e=>?_);unfold iF;rcases hj:k.job with _|j
 ·rw[hj]at e;cases e
 rfl
structure PJ (F:Nat->Prop) (q p b:Nat) (w w':World) (r:Ending) (s:Sh) (k:Kl) (m:Mem):Prop where
 ret:∃ v,r= .returned (.tuple #[v,.int .i64 (k.step s m).2.2.2])/\w'.ownsRow w.heap.size 68 8 v (k.step s m).2.2.1.length ((k.step s m).2.2.1.flatMap fun e=> e.cells.toList)
 wds:oA w' p b (k.step s m).2.1
 kl:KlO (grow F w w') w' q s (k.step s m).1
 only:Only (fun i=> F i\/i=p\/i=b) w w'
theorem zuq{F:Nat->Prop}{q p b:Nat}{s:Sh}{k:Kl}{m:Mem}{w:World}(h:KlO F w q s k)(E:oA w p b m)(B:k.job=none):
  Calls Tryz.prog 63 #[some q,some p] w fun r w'=>PJ F q p b w w' r s k m:=by
 have o:k.step s m=(k,m, [],2):=by unfold Kl.step;rw[B]
 have l:=((Below.refl w.heap.size w).alloc lr (.cells #[some q] 80)).alloc (by simp) (.cells #[some p] 75);have y:k.rests=true:=by unfold Kl.rests;rw[B];rfl
 have i:=(h.below l).rests;rw[y]at i;replace i:=hd' i;have n:Hid (∀ W,jW w W->PJ F q p b w W (.returned (.tuple #[.slice none 0 0,.int .i64 2])) s k m):=hd' fun W hb=>by
  refine⟨⟨_,by rw[o],?_⟩,?_,?_,Only.of_below hb⟩
  ·rw[o];exact DH _ _
  ·rw[o];exact E.below hb
  rw[o];exact(h.below hb).weak (fun b hb=>.inl hb) (EE h.lt hb.size)
 clear h E o B y;go_in;go_upto_region 1 with fail;have z:aA ((w.alloc (.cells #[some q] 80)).alloc (.cells #[some p] 75)) w.heap.size #[some q] 80:=aA.alloc (jA _ _) _;generalize (w.alloc (.cells #[some q] 80)).alloc (.cells #[some p] 75)=X at *;obtain⟨H,J,j⟩:=hidv w.heap.size;rw[<-j]at z ⊢;clear j;have L:H<X.heap.size:=z.lt;have I:=z.cell;have D:∀ W:World,(binOp .eql 80 (.pointer (some ⟨q,0,.none⟩)) (.pointer none)).run Tryz.prog W= .ok (.bool false) W:=fun W=>by kernel_rfl
 go_wp2_with (go_at_call 65;(with_reducible refine i.out.mono ?_);rintro r M ⟨rfl,C⟩;obtain rfl:=C.symm);go_returns;exact n _ l
def OJ (w w':World) (e:Ending) (s:Sh) (cl:Int) (j:Jb):Prop:=∃ jv,e= .returned jv/\JbO (fun i=> w.heap.size<=i/\i < w'.heap.size) w' jv s cl j/\Below w.heap.size w w'
theorem zue{q sp:Nat}{s:Sh}{k:Kl}{i:Bool}{jv:Value}{w:World}(h:aA w q (GB s k i jv (.pointer (some ⟨sp,0,.none⟩))) 132)(hk:1<=k.op.k/\k.op.k<=4):
  Calls Tryz.prog 69 #[some q] w fun e w'=>OJ w w' e s k.c (iC s k.c k.first k.op.k k.op.a k.op.n):=by
 have J:=fun W=>yW s k.c k.op.n k.first W;have L:=fun W=>EV s k.c k.op.a W;have M:=fun W=>z3p s k.c k.op.a k.op.n k.first W;have N:=fun W=>z2a s k.c k.op.a W;have T:(k.op.k=1/\iC s k.c k.first k.op.k k.op.a k.op.n= .mal (CB s k.c k.op.n k.first) none)\/(k.op.k=2/\iC s k.c k.first k.op.k k.op.a k.op.n= .fre (nB s k.c k.op.a))\/(k.op.k=3/\iC s k.c k.first k.op.k k.op.a k.op.n= .aga (gD s k.c k.op.a k.op.n k.first))\/(k.op.k=4/\iC s k.c k.first k.op.k k.op.a k.op.n= .hei (iD s k.c k.op.a)):=by
  have:k.op.k=1\/k.op.k=2\/k.op.k=3\/k.op.k=4:=by omega
  rcases this with e|e|e|e
  ·exact .inl ⟨e,by rw[e];rfl⟩
  ·exact .inr (.inl ⟨e,by rw[e];rfl⟩)
  ·exact .inr (.inr (.inl ⟨e,by rw[e];rfl⟩))
  exact .inr (.inr (.inr ⟨e,by rw[e];rfl⟩))
 obtain⟨j,b2⟩:∃ j,j=iC s k.c k.first k.op.k k.op.a k.op.n:=⟨_,rfl⟩;rw[<-b2]at T ⊢;clear b2 hk;have b1:=fun (Y:World) (q:Nat) (h:aA Y q (SA s (nB s k.c k.op.a) (.pointer none)) 250)=>pX h;generalize CB s k.c k.op.n k.first=b4 at *;generalize nB s k.c k.op.a=b0 at *;generalize gD s k.c k.op.a k.op.n k.first=b3 at *;generalize iD s k.c k.op.a=Z at *;obtain⟨B,O,⟨ok,oa,on⟩,kj,kt,ks⟩:=k;dsimp only at T J L M N ⊢
 have o:=hd' (fun (X Y W:World) (q1 E:Nat) (D:Below w.heap.size w X) (hO:RsO (fun i=>X.heap.size<=i/\i<Y.heap.size) Y q1 s b4) (hb:Below X.heap.size X Y) (hE:aA W E (CG s B (.pointer (some ⟨q1,0,.none⟩)) (.pointer none)) 205) (b5:Y.heap.size<=E) (hW:Below Y.heap.size Y W)=>
  (⟨_,rfl,⟨E,rfl,fun i hi=>hi.2,⟨Nat.le_trans (Nat.le_trans D.size hb.size) b5,hE.lt⟩,q1,0,fun i=>X.heap.size<=i/\i<Y.heap.size,fun i hi=>⟨⟨Nat.le_trans D.size hi.1,Nat.lt_of_lt_of_le hi.2 hW.size⟩,fun e=>by omega⟩,hE,hO.bel hW,fun x hx=>(by cases hx)⟩,zA (zA D hb) hW⟩:OJ w W (.returned (.iface 200 (.pointer (some ⟨E,0,.none⟩)))) s B (.mal b4 none)))
 have p:=hd' (fun (X Y:World) (q1:Nat) (D:Below w.heap.size w X) (h1:X.heap.size<=q1) (b:aA Y q1 (SA s b0 (.pointer none)) 250) (hb:Below X.heap.size X Y)=>
  (⟨_,rfl,⟨q1,rfl,⟨Nat.le_trans D.size h1,b.lt⟩,(b1 Y q1 b).2.imp (fun q2 hh=>⟨hh.1,fun e=>by have:=hh.2 e;rw[this];exact⟨Nat.le_trans D.size h1,b.lt⟩⟩)⟩,zA D hb⟩:OJ w Y (.returned (.iface 209 (.agg #[some q1]))) s B (.fre b0)))
 have y:=hd' (fun (X Y:World) (q1:Nat) (D:Below w.heap.size w X) (b:RrO (fun i=>X.heap.size<=i/\i<Y.heap.size) Y q1 s b3) (hb:Below X.heap.size X Y)=>
  (⟨_,rfl,⟨q1,rfl,b.weak (fun i hi=>⟨Nat.le_trans D.size hi.1,hi.2⟩) (fun i hi=>hi.2)⟩,zA D hb⟩:OJ w Y (.returned (.iface 213 (.agg #[some q1]))) s B (.aga b3)))
 have z:=hd' (fun (X Y:World) (q1:Nat) (D:Below w.heap.size w X) (h1:X.heap.size<=q1) (b:aA Y q1 (EA s Z) 256) (hb:Below X.heap.size X Y)=>
  (⟨_,rfl,⟨q1,rfl,⟨Nat.le_trans D.size h1,b.lt⟩,b⟩,zA D hb⟩:OJ w Y (.returned (.iface 217 (.agg #[some q1]))) s B (.hei Z)))
 clear b1;obtain⟨l,F,H⟩:=s;dsimp only[GB]at h;dsimp only at J L M N;replace J:=hd' J;replace L:=hd' L;replace M:=hd' M;replace N:=hd' N;have R:q<w.heap.size:=h.lt;have I:=h.cell;rcases T with⟨rfl,U⟩|⟨rfl,U⟩|⟨rfl,U⟩|⟨rfl,U⟩;case inl=>
  subst U;clear L M N p y z;go_in;go_upto_region 3 with fail;have hd:=h.drew;have bd:Below w.heap.size w w.drew:=br.drew;clear R I h;have R:q<w.drew.heap.size:=hd.lt;have hS:=hd' (fun (Y:World) (b:aA Y q #[l,F,H,B,O,.int .i64 1,oa,on,jv,i,kt,some sp,ks] 132)=>(⟨b.cell 0,b.cell 1,b.cell 2,b.cell 3,b.cell 4,b.cell 7⟩:Y.cell? ⟨q,0,.none⟩=some (.int .i64 l)/\Y.cell? ⟨q,1,.none⟩=some (.int .i64 F)/\Y.cell? ⟨q,2,.none⟩=some (.int .i64 H)/\Y.cell? ⟨q,3,.none⟩=some (.int .i64 B)/\Y.cell? ⟨q,4,.none⟩=some (.int .i64 O)/\Y.cell? ⟨q,7,.none⟩=some (.int .i64 on)))
  go_region_held3 (fun Y=>Y.cell? ⟨q,0,.none⟩=some (.int .i64 l)/\Y.cell? ⟨q,1,.none⟩=some (.int .i64 F)/\Y.cell? ⟨q,2,.none⟩=some (.int .i64 H)/\Y.cell? ⟨q,3,.none⟩=some (.int .i64 B)/\Y.cell? ⟨q,4,.none⟩=some (.int .i64 O)/\Y.cell? ⟨q,7,.none⟩=some (.int .i64 on))
   (first|exact hS _ hd|exact hS _ h1|exact hS _ (h1.alloc _))
   (first|(go_at_call 107;refine(J _).mono ?_;rintro r S ⟨q1,rfl,C,m⟩;have h1:=hd.below m))
  go_wp2_with fail;go_returns;exact o w.drew S _ q1 S.heap.size bd C m (jA _ _) lr (br.alloc lr _)
 case inr.inl=>
  subst U;clear J M N o y z;go_in;go_upto_region 5 with fail;have hd:=h.drew;have bd:Below w.heap.size w w.drew:=br.drew;clear R I h;have R:q<w.drew.heap.size:=hd.lt;have hS:=hd' (fun (Y:World) (b:aA Y q #[l,F,H,B,O,.int .i64 2,oa,on,jv,i,kt,some sp,ks] 132)=>(⟨b.cell 0,b.cell 1,b.cell 2,b.cell 3,b.cell 6⟩:Y.cell? ⟨q,0,.none⟩=some (.int .i64 l)/\Y.cell? ⟨q,1,.none⟩=some (.int .i64 F)/\Y.cell? ⟨q,2,.none⟩=some (.int .i64 H)/\Y.cell? ⟨q,3,.none⟩=some (.int .i64 B)/\Y.cell? ⟨q,6,.none⟩=some (.int .i64 oa)))
  go_region_held3 (fun Y=>Y.cell? ⟨q,0,.none⟩=some (.int .i64 l)/\Y.cell? ⟨q,1,.none⟩=some (.int .i64 F)/\Y.cell? ⟨q,2,.none⟩=some (.int .i64 H)/\Y.cell? ⟨q,3,.none⟩=some (.int .i64 B)/\Y.cell? ⟨q,6,.none⟩=some (.int .i64 oa))
   (first|exact hS _ hd|exact hS _ h1|exact hS _ (h1.alloc _))
   (first|(go_at_call 108;refine(L _).mono ?_;rintro r S ⟨q1,rfl,V,C,m⟩;have h1:=hd.below m))
  go_wp2_with fail;go_returns;exact p w.drew S q1 bd V C m
 case inr.inr.inl=>
  subst U;clear J L N o p z;go_in;go_upto_region 7 with fail;have hd:=h.drew;have bd:Below w.heap.size w w.drew:=br.drew;clear R I h;have R:q<w.drew.heap.size:=hd.lt;have hS:=hd' (fun (Y:World) (b:aA Y q #[l,F,H,B,O,.int .i64 3,oa,on,jv,i,kt,some sp,ks] 132)=>(⟨b.cell 0,b.cell 1,b.cell 2,b.cell 3,b.cell 4,b.cell 6,b.cell 7⟩:Y.cell? ⟨q,0,.none⟩=some (.int .i64 l)/\Y.cell? ⟨q,1,.none⟩=some (.int .i64 F)/\Y.cell? ⟨q,2,.none⟩=some (.int .i64 H)/\Y.cell? ⟨q,3,.none⟩=some (.int .i64 B)/\Y.cell? ⟨q,4,.none⟩=some (.int .i64 O)/\Y.cell? ⟨q,6,.none⟩=some (.int .i64 oa)/\Y.cell? ⟨q,7,.none⟩=some (.int .i64 on)))
  go_region_held3 (fun Y=>Y.cell? ⟨q,0,.none⟩=some (.int .i64 l)/\Y.cell? ⟨q,1,.none⟩=some (.int .i64 F)/\Y.cell? ⟨q,2,.none⟩=some (.int .i64 H)/\Y.cell? ⟨q,3,.none⟩=some (.int .i64 B)/\Y.cell? ⟨q,4,.none⟩=some (.int .i64 O)/\Y.cell? ⟨q,6,.none⟩=some (.int .i64 oa)/\Y.cell? ⟨q,7,.none⟩=some (.int .i64 on))
   (first|exact hS _ hd|exact hS _ h1|exact hS _ (h1.alloc _))
   (first|(go_at_call 109;refine(M _).mono ?_;rintro r S ⟨q1,rfl,C,m⟩;have h1:=hd.below m))
  go_wp2_with fail;go_returns;exact y w.drew S q1 bd C m
 case inr.inr.inr=>
  subst U;clear J L M o p y;go_in;go_upto_region 8 with fail;have hd:=h.drew;have bd:Below w.heap.size w w.drew:=br.drew;clear R I h;have R:q<w.drew.heap.size:=hd.lt;have hS:=hd' (fun (Y:World) (b:aA Y q #[l,F,H,B,O,.int .i64 4,oa,on,jv,i,kt,some sp,ks] 132)=>(⟨b.cell 0,b.cell 1,b.cell 2,b.cell 3,b.cell 6⟩:Y.cell? ⟨q,0,.none⟩=some (.int .i64 l)/\Y.cell? ⟨q,1,.none⟩=some (.int .i64 F)/\Y.cell? ⟨q,2,.none⟩=some (.int .i64 H)/\Y.cell? ⟨q,3,.none⟩=some (.int .i64 B)/\Y.cell? ⟨q,6,.none⟩=some (.int .i64 oa)))
  go_region_held3 (fun Y=>Y.cell? ⟨q,0,.none⟩=some (.int .i64 l)/\Y.cell? ⟨q,1,.none⟩=some (.int .i64 F)/\Y.cell? ⟨q,2,.none⟩=some (.int .i64 H)/\Y.cell? ⟨q,3,.none⟩=some (.int .i64 B)/\Y.cell? ⟨q,6,.none⟩=some (.int .i64 oa))
   (first|exact hS _ hd|exact hS _ h1|exact hS _ (h1.alloc _))
   (first|(go_at_call 110;refine(N _).mono ?_;rintro r S ⟨q1,rfl,V,C,m⟩;have h1:=hd.below m))
  go_wp2_with fail;go_returns;exact z w.drew S q1 bd V C m
end

end Go.Proofs.YtmmbicppdjgbmaaGreat
