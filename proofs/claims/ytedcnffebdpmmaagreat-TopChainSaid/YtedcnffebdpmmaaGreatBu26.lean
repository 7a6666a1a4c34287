/- Texts bound together: CliA TelP TelJ CliT. -/
import Derived.Test.YtedcnffebdpmmaaGreatBu25

import Derived.Test.YtedcnffebdpmmaaGreatBu22

set_option linter.all false
set_option maxHeartbeats 4000000
set_option maxRecDepth 100000
namespace Go.Proofs.YtedcnffebdpmmaaGreat

attribute [local go_sem] zan

section

open Go.RowKit

attribute [local go_sem ↓] Go.wp_at_zero Go.wp_at_succ

def zat (s:Sh) (k:Kl) (idle:Bool) (jv sv:Value):Array Value:= #[s.p,s.c,s.m,k.c,k.first,k.op.k,k.op.a,k.op.n,jv,idle,k.told,sv,k.steps]
attribute [local go_sem] zat

theorem zbn{q sp:Nat}{s:Sh}{k:Kl}{i:Bool}{jv sl:Value}{most:Int}{fs:List Fr}(x at':Int){w:World}(h:zaa w q (zat s k i jv (.pointer (some ⟨sp,0,.none⟩))) 122)(hs:SK 0 w sp sl most fs)(S:¬ foot sp sl q):
  Calls Tryz.prog 56 #[some q,x,at'] w fun r w'=>r= .returned (zaf k.c k.op at' x).val/\zaa w' q (zat s k true .nilIface (.pointer (some ⟨sp,0,.none⟩))) 122/\SK 0 w' sp (.slice none 0 0) most []/\Only (fun b=>b=q\/foot sp sl b) w w':=by
 unfold Ev.val Ev.cells zaf;dsimp only;obtain⟨b2,sc,sm⟩:=s;obtain⟨n,kf,⟨ok,oa,on⟩,kj,kt,ks⟩:=k;dsimp only[zat]at h ⊢;have B:=(Below.refl w.heap.size w).alloc lr (.cells #[.int .i64 0,.int .i64 0,.int .i64 0,.int .i64 0,.int .i64 0,.int .i64 0,.int .i64 0,.int .i64 0] 77);have hE:zaa (w.alloc (.cells #[.int .i64 0,.int .i64 0,.int .i64 0,.int .i64 0,.int .i64 0,.int .i64 0,.int .i64 0,.int .i64 0] 77)) w.heap.size #[.int .i64 0,.int .i64 0,.int .i64 0,.int .i64 0,.int .i64 0,.int .i64 0,.int .i64 0,.int .i64 0] 77:=heap_alloc_new _ _;have lq:q<w.heap.size:=h.lt;go_in;go_upto_region 1 with fail;have M:=h.below B;have b0:=hs.below B;generalize w.alloc (.cells #[.int .i64 0,.int .i64 0,.int .i64 0,.int .i64 0,.int .i64 0,.int .i64 0,.int .i64 0,.int .i64 0] 77)=X at *;obtain⟨E,bi,D⟩:=hidv w.heap.size;rw[<-D]at hE ⊢;have l:w.heap.size<=E:=by omega
 have j:q≠E:=by omega
 have J:∀ b,foot sp sl b->b≠E:=fun b hb=>by
  rcases hb with rfl|hb
  ·have:=hs.lt;omega
  have:=hs.zem b hb;omega
 have b1:sp≠E:=J sp (.inl rfl);clear D;have lX:q<X.heap.size:=M.lt;have fX:=zax M;have b3:=M.cell;go_upto_region 2 with fail;have m:=(M.set 9 (.bool true)).set 8 .nilIface;have H:∀ b,foot sp sl b->b≠q:=fun b hb e=>S (e ▸ hb);have V:SK 0 ((X.setCell ⟨q,9,.none⟩ (.bool true)).setCell ⟨q,8,.none⟩ .nilIface) sp sl most fs:=b0.blocks fun b hb=>by rw[Below.heap_setCell _ ⟨q,8,.none⟩ _ b (H b hb),Below.heap_setCell _ ⟨q,9,.none⟩ _ b (H b hb)]
 have L:=(hE.other (fun e=>j e.symm) 9 (.bool true)).other (fun e=>j e.symm) 8 .nilIface;have O:Only (fun b=>b=q\/foot sp sl b) w ((X.setCell ⟨q,9,.none⟩ (.bool true)).setCell ⟨q,8,.none⟩ .nilIface):=Only.setCell (F:=fun b=>b=q\/foot sp sl b) (Only.setCell (F:=fun b=>b=q\/foot sp sl b) (Only.of_below B) (.inl (.inl rfl)) _) (.inl (.inl rfl)) _;generalize (X.setCell ⟨q,9,.none⟩ (.bool true)).setCell ⟨q,8,.none⟩ .nilIface=Y at *;clear b3 lX fX M b0 hs B;replace m:=m.cast (cs':= #[b2,sc,sm,n,kf,ok,oa,on,.nilIface,.bool true,kt,some sp,ks]) rfl;have lY:q<Y.heap.size:=m.lt;have b4:=m.cell;have N:=hd' (zq6 V);go_upto_region 3 with(go_at_call 87;(with_reducible refine N.out.mono ?_);rintro r w1 ⟨rfl,C,T⟩);have y:=m.only C S;have I:=L.only C (fun hb=>J E hb rfl);have R:=O.trans C (fun b _ hb=>.inr hb);clear lY b4 N m L O C V J;have bg:q<w1.heap.size:=y.lt;have bf:E<w1.heap.size:=I.lt;have b5:=y.cell;refine wret 11 ?_;repeat (go_big_quiet_step (fail))
 refine wqn fun Z z=>?_;have b6:=y.below z;have o:=I.below z;have bc:=T.below z;have b9:=R.trans (Only.of_below (F:=fun _=>False) z) (fun _ _ hb=>hb.elim);clear bg bf b5 y I T R;have lE:E<Z.heap.size:=o.lt;have fE:=zax o;have bh:=o.cell;go_wp2_with fail;have hF:zaa ((((((((Z.setCell ⟨E,0,.none⟩ (.int .i64 5)).setCell ⟨E,1,.none⟩ (.int .i64 n)).setCell ⟨E,2,.none⟩ (.int .i64 ok)).setCell ⟨E,3,.none⟩ (.int .i64 oa)).setCell ⟨E,4,.none⟩ (.int .i64 on)).setCell ⟨E,5,.none⟩ (.int .i64 at')).setCell ⟨E,6,.none⟩ (.int .i64 0)).setCell ⟨E,7,.none⟩ (.int .i64 x)) E #[.int .i64 5,n,ok,oa,on,at',.int .i64 0,x] 77:=((((((((o.set 0 (.int .i64 5)).set 1 (.int .i64 n)).set 2 (.int .i64 ok)).set 3 (.int .i64 oa)).set 4 (.int .i64 on)).set 5 (.int .i64 at')).set 6 (.int .i64 0)).set 7 (.int .i64 x));have ba:zaa ((((((((Z.setCell ⟨E,0,.none⟩ (.int .i64 5)).setCell ⟨E,1,.none⟩ (.int .i64 n)).setCell ⟨E,2,.none⟩ (.int .i64 ok)).setCell ⟨E,3,.none⟩ (.int .i64 oa)).setCell ⟨E,4,.none⟩ (.int .i64 on)).setCell ⟨E,5,.none⟩ (.int .i64 at')).setCell ⟨E,6,.none⟩ (.int .i64 0)).setCell ⟨E,7,.none⟩ (.int .i64 x)) q #[b2,sc,sm,n,kf,ok,oa,on,.nilIface,.bool true,kt,some sp,ks] 122:=((((((((b6.other j 0 (.int .i64 5)).other j 1 (.int .i64 n)).other j 2 (.int .i64 ok)).other j 3 (.int .i64 oa)).other j 4 (.int .i64 on)).other j 5 (.int .i64 at')).other j 6 (.int .i64 0)).other j 7 (.int .i64 x));have b8:Only (fun b=>b=q\/foot sp sl b) w ((((((((Z.setCell ⟨E,0,.none⟩ (.int .i64 5)).setCell ⟨E,1,.none⟩ (.int .i64 n)).setCell ⟨E,2,.none⟩ (.int .i64 ok)).setCell ⟨E,3,.none⟩ (.int .i64 oa)).setCell ⟨E,4,.none⟩ (.int .i64 on)).setCell ⟨E,5,.none⟩ (.int .i64 at')).setCell ⟨E,6,.none⟩ (.int .i64 0)).setCell ⟨E,7,.none⟩ (.int .i64 x)):=((((((((b9.setCell (p:=⟨E,0,.none⟩) (.inr l) (.int .i64 5)).setCell (p:=⟨E,1,.none⟩) (.inr l) (.int .i64 n)).setCell (p:=⟨E,2,.none⟩) (.inr l) (.int .i64 ok)).setCell (p:=⟨E,3,.none⟩) (.inr l) (.int .i64 oa)).setCell (p:=⟨E,4,.none⟩) (.inr l) (.int .i64 on)).setCell (p:=⟨E,5,.none⟩) (.inr l) (.int .i64 at')).setCell (p:=⟨E,6,.none⟩) (.inr l) (.int .i64 0)).setCell (p:=⟨E,7,.none⟩) (.inr l) (.int .i64 x));have bb:SK 0 ((((((((Z.setCell ⟨E,0,.none⟩ (.int .i64 5)).setCell ⟨E,1,.none⟩ (.int .i64 n)).setCell ⟨E,2,.none⟩ (.int .i64 ok)).setCell ⟨E,3,.none⟩ (.int .i64 oa)).setCell ⟨E,4,.none⟩ (.int .i64 on)).setCell ⟨E,5,.none⟩ (.int .i64 at')).setCell ⟨E,6,.none⟩ (.int .i64 0)).setCell ⟨E,7,.none⟩ (.int .i64 x)) sp (.slice none 0 0) most []:=bc.blocks fun b hb=>by
  have b7:b≠E:=by
   rcases hb with rfl|hb
   ·exact b1
   cases hb
  simp only[Below.heap_setCell _ ⟨E,_,.none⟩ _ b b7]
 generalize (((((((Z.setCell ⟨E,0,.none⟩ (.int .i64 5)).setCell ⟨E,1,.none⟩ (.int .i64 n)).setCell ⟨E,2,.none⟩ (.int .i64 ok)).setCell ⟨E,3,.none⟩ (.int .i64 oa)).setCell ⟨E,4,.none⟩ (.int .i64 on)).setCell ⟨E,5,.none⟩ (.int .i64 at')).setCell ⟨E,6,.none⟩ (.int .i64 0)).setCell ⟨E,7,.none⟩ (.int .i64 x)=U at *;obtain⟨r0,r1,r2,r3,r4,r5,r6,r7⟩:=ci8 5 n ok oa on at' 0 x hF.cell;exact bodyPost_ret (v:= .agg #[.int .i64 5,n,ok,oa,on,at',.int .i64 0,x]) (by simp[results,Tryz.results56,go_sem,r0,r1,r2,r3,r4,r5,r6,r7]) rfl ⟨rfl,ba,bb,b8⟩
end

section

attribute [local go_sem] zat

open Go.RowKit

theorem zdb:(Tryz.prog.info? 77).map (fun i=>(i.zero,i.size,i.bytes))=some (some (.agg #[.int .i64 0,.int .i64 0,.int .i64 0,.int .i64 0,.int .i64 0,.int .i64 0,.int .i64 0,.int .i64 0]),8,64):=by kernel_rfl
theorem zel(B:Nat)(w:World):w.ownsRow B 77 8 (.slice none 0 0) 0 []:=⟨by simp,.inl ⟨rfl,rfl⟩⟩
theorem zfo(e:Ev):∀ u ∈ e.cells.toList,u.oneCell'=true:=by
 intro u hu;simp only[Ev.cells,List.mem_cons,List.not_mem_nil,or_false]at hu;rcases hu with rfl|rfl|rfl|rfl|rfl|rfl|rfl|rfl<;>rfl
theorem evRd(e:Ev)(X:World):RdS (X.alloc (.cells e.cells 77)) 8 (.slice (some ⟨X.heap.size,0,.none⟩) 1 1) 1 e.cells.toList:=RdS.new (heap_alloc_new _ _) rfl (by decide)
theorem zav{w w':World}{B:Nat}{E:TypeId}{size:Nat}{v:Value}{n:Nat}{xs:List Value}(h:w.ownsRow B E size v n xs)(hb:Below w.heap.size w w'):w'.ownsRow B E size v n xs:=
 zas h fun k b=>hb.block k (h.lt k b).2
theorem zkk{w w':World}{B:Nat}{F:Nat->Prop}{E:TypeId}{size:Nat}{v:Value}{n:Nat}{xs:List Value}(h:w.ownsRow B E size v n xs)(j:Only F w w')(i:∀ b,B<=b->¬ F b):w'.ownsRow B E size v n xs:=
 zas h fun k f=>j.block k (h.lt k f).2 (i k (h.lt k f).1)
theorem zaa.belB{B:Nat}{w w':World}{q:Nat}{cs:Array Value}{T:TypeId}(h:zaa w q cs T)(hb:Below B w w')(b:q<B):zaa w' q cs T:=(hb.block q b).trans h
theorem zfp{F:Nat->Prop}{w X Y:World}(h:Only F w X)(hb:Below w.heap.size X Y):Only F w Y:=
 ⟨hb.os.trans h.os,hb.tape.trans h.tape,hb.output.trans h.output,Nat.le_trans h.size hb.size,fun k b f=>(hb.block k b).trans (h.block k b f)⟩
theorem zdy{B:Nat}{w w':World}(hb:Below B w w'):Only (fun b=>B<=b) w w':=⟨hb.os,hb.tape,hb.output,hb.size,fun k _ f=>hb.block k (by omega)⟩
def AdO (F:Nat->Prop) (w:World) (q:Nat) (s:Sh) (a:Ad):Prop:=F q/\zaa w q (zan s a) 222
theorem AdO.only{F G:Nat->Prop}{w w':World}{q:Nat}{s:Sh}{a:Ad}(h:AdO F w q s a)(b:Only G w w')(hd:∀ k,F k->¬ G k):AdO F w' q s a:=⟨h.1,h.2.only b (hd q h.1)⟩
theorem AdO.below{F:Nat->Prop}{w w':World}{q:Nat}{s:Sh}{a:Ad}(h:AdO F w q s a)(hb:Below w.heap.size w w'):AdO F w' q s a:=⟨h.1,h.2.below hb⟩
theorem FeO.below{F:Nat->Prop}{w w':World}{q:Nat}{s:Sh}{t:Fe}(h:FeO F w q s t)(hb:Below w.heap.size w w'):FeO F w' q s t:=h.only (Only.of_below (F:=fun _=>False) hb) (fun _ _ e=>e)
theorem MalO.below{F:Nat->Prop}{w w':World}{q:Nat}{s:Sh}{cl:Int}{r:Rs}{c:Option Cm}(h:MalO F w q s cl r c)(hb:Below w.heap.size w w'):MalO F w' q s cl r c:=h.only (Only.of_below (F:=fun _=>False) hb) (fun _ _ e=>e)
structure zbp (q sp:Nat) (s:Sh) (k:Kl) (d:Bool) (jv sl:Value) (most:Int) (fs:List Fr) (es:List Ev) (w w':World) (r:Ending):Prop where
 ret:∃ v,r= .returned v/\w'.ownsRow w.heap.size 77 8 v es.length (es.flatMap fun e=> e.cells.toList)
 row:zaa w' q (zat s k d (if d=true then .nilIface else jv) (.pointer (some ⟨sp,0,.none⟩))) 122
 stk:SK 0 w' sp (if d=true then .slice none 0 0 else sl) most (if d=true then [] else fs)
 only:Only (fun b=> b=q\/foot sp sl b) w w'
section

attribute [local go_sem] zat

variable {G:Nat->Prop} {Y:World} {q1:Nat} {s:Sh}

theorem zgh{f:Fe}(h:FeO G Y q1 s f):Calls Tryz.prog 209 #[.agg #[some q1]] Y fun e w'=>e= .returned (.bool f.gave)/\Below Y.heap.size Y w':=by
 obtain⟨_,q2,h3,_⟩:=h;exact zxu q1 _ f.gave Y h3.row rfl
theorem zf9{f:Fe}(h:FeO G Y q1 s f):Calls Tryz.prog 125 #[some q1] Y fun e w'=>e= .returned (.bool f.done)/\Below Y.heap.size Y w':=by
 obtain⟨_,q2,h3,_⟩:=h;exact(zkw q1 _ f.done Y h3.row rfl).mono (fun e w' h=>⟨h.1,h.2 ▸ Below.refl _ _⟩)
theorem zm8{f:Fe}(_h:FeO G Y q1 s f):Calls Tryz.prog 210 #[.agg #[some q1]] Y fun e w'=>e= .returned (gotV none)/\Below Y.heap.size Y w':=zze _ Y
theorem zqy{f:Fe}(h:FeO G Y q1 s f):Calls Tryz.prog 208 #[.agg #[some q1]] Y fun e w'=>e= .returned (.int .i64 (Jb.fre f).err)/\Below Y.heap.size Y w':=by
 obtain⟨_,q2,h3,_⟩:=h;exact z2s q1 _ f.gave Y h3.row rfl
theorem zd8{t:Rr}(h:RrO G Y q1 s t):Calls Tryz.prog 215 #[.agg #[some q1]] Y fun e w'=>e= .returned (.bool (Jb.aga t).gave)/\Below Y.heap.size Y w':=zyz h
theorem zd5{t:Rr}(h:RrO G Y q1 s t):Calls Tryz.prog 211 #[some q1] Y fun e w'=>e= .returned (.bool t.done)/\Below Y.heap.size Y w':=by
 obtain⟨_,_,_,_,_,_,_,_,_,_,b,_⟩:=h;exact(zzc q1 _ t.done Y b rfl).mono (fun e w' h=>⟨h.1,h.2 ▸ Below.refl _ _⟩)
theorem zgc{t:Rr}(hd:t.done=true->t.err=0->∃ r,t.res=some r)(h:RrO G Y q1 s t):Calls Tryz.prog 216 #[.agg #[some q1]] Y fun e w'=>e= .returned (gotV (Jb.aga t).took)/\Below Y.heap.size Y w':=zzp h hd
theorem zii{t:Rr}(h:RrO G Y q1 s t):Calls Tryz.prog 214 #[.agg #[some q1]] Y fun e w'=>e= .returned (.int .i64 (Jb.aga t).err)/\Below Y.heap.size Y w':=by
 obtain⟨_,_,_,_,_,_,_,_,_,_,b,_⟩:=h;exact z1d q1 s t _ _ _ _ Y b
theorem zno{cl:Int}{r:Rs}{c:Option Cm}(_h:MalO G Y q1 s cl r c):Calls Tryz.prog 179 #[some q1] Y fun e w'=>e= .returned (.bool false)/\Below Y.heap.size Y w':=(ztz _ Y).mono (fun e w' h=>⟨h.1,h.2 ▸ Below.refl _ _⟩)
theorem zm2{cl:Int}{r:Rs}{c:Option Cm}(h:MalO G Y q1 s cl r c):Calls Tryz.prog 176 #[some q1] Y fun e w'=>e= .returned (.bool (Jb.mal r c).done)/\Below Y.heap.size Y w':=zvm h
theorem zrs{cl:Int}{r:Rs}{c:Option Cm}(h:MalO G Y q1 s cl r c):Calls Tryz.prog 180 #[some q1] Y fun e w'=>e= .returned (gotV (Jb.mal r c).took)/\Below Y.heap.size Y w':=zux h
theorem zv7{cl:Int}{r:Rs}{c:Option Cm}(h:MalO G Y q1 s cl r c):Calls Tryz.prog 178 #[some q1] Y fun e w'=>e= .returned (.int .i64 (Jb.mal r c).err)/\Below Y.heap.size Y w':=zy3 h
theorem zqz{a:Ad}(_h:AdO G Y q1 s a):Calls Tryz.prog 231 #[.agg #[some q1]] Y fun e w'=>e= .returned (.bool false)/\Below Y.heap.size Y w':=zy9 _ Y
theorem zti{a:Ad}(h:AdO G Y q1 s a):Calls Tryz.prog 220 #[some q1] Y fun e w'=>e= .returned (.bool a.done)/\Below Y.heap.size Y w':=(zxq q1 _ a.done Y h.2 rfl).mono (fun e w' h=>⟨h.1,h.2 ▸ Below.refl _ _⟩)
theorem z0p{a:Ad}(_h:AdO G Y q1 s a):Calls Tryz.prog 232 #[.agg #[some q1]] Y fun e w'=>e= .returned (gotV none)/\Below Y.heap.size Y w':=zx3 _ Y
theorem z8a{a:Ad}(h:AdO G Y q1 s a):Calls Tryz.prog 230 #[.agg #[some q1]] Y fun e w'=>e= .returned (.int .i64 a.err)/\Below Y.heap.size Y w':=zz3 q1 s a Y h.2
end

end

section

attribute [local go_sem] zat

open Go.RowKit

attribute [local go_sem ↓] Go.wp_at_zero Go.wp_at_succ

def yhk (c a:Int) (g t:Bool):List Ev:=if g=true/\t=false then [zbw c a] else []
def yhp (c:Int):Option Blk->List Ev
 | some b=> [zb5 c b.at' b.len]
 | none=> []
theorem yhr{q sp:Nat}{s:Sh}{k:Kl}{sl:Value}{most:Int}{fs:List Fr}{T:TypeId}{x:Value}{fg fd ft fe:FuncId}{rg rd rt re:Value}{er:Int}{dn:Bool}{M:Option Blk}{J:World->Prop}{gv:Bool}{w:World}(hk:∀ b,M=some b->(0<=b.page/\b.page<=64)/\(b.large=false->0<=b.slot/\b.slot<=16)/\(0<=b.pages/\b.pages<=64))(h:zaa w q (zat s k false (.iface T x) (.pointer (some ⟨sp,0,.none⟩))) 122)(hs:SK 0 w sp sl most fs)(e8:¬ foot sp sl q)(hJ:J w)(Z:∀ Y Y',J Y->Only (fun b=>b=q\/w.heap.size<=b) Y Y'->J Y')
  (m1:∀ W:World,(method (Tryz.prog.types.size+Made.depth) T x "allotment/client.gave").run Tryz.prog W= .ok (fg,rg) W) (m2:∀ W:World,(method (Tryz.prog.types.size+Made.depth) T x "Done").run Tryz.prog W= .ok (fd,rd) W)
  (f1:∀ W:World,(callFunc fg #[rg]).run Tryz.prog W= .ok (.enter fg #[rg]) W) (f2:∀ W:World,(callFunc fd #[rd]).run Tryz.prog W= .ok (.enter fd #[rd]) W)
  (m3:∀ W:World,(method (Tryz.prog.types.size+Made.depth) T x "allotment/client.took").run Tryz.prog W= .ok (ft,rt) W) (m4:∀ W:World,(method (Tryz.prog.types.size+Made.depth) T x "allotment/client.err").run Tryz.prog W= .ok (fe,re) W)
  (f3:∀ W:World,(callFunc ft #[rt]).run Tryz.prog W= .ok (.enter ft #[rt]) W) (f4:∀ W:World,(callFunc fe #[re]).run Tryz.prog W= .ok (.enter fe #[re]) W)
  (c3:∀ Y,J Y->Calls Tryz.prog ft #[rt] Y fun e w'=>e= .returned (gotV M)/\Below Y.heap.size Y w') (c4:∀ Y,J Y->Calls Tryz.prog fe #[re] Y fun e w'=>e= .returned (.int .i64 er)/\Below Y.heap.size Y w')
  (c1:∀ Y,J Y->Calls Tryz.prog fg #[rg] Y fun e w'=>e= .returned (.bool gv)/\Below Y.heap.size Y w') (c2:∀ Y,J Y->Calls Tryz.prog fd #[rd] Y fun e w'=>e= .returned (.bool dn)/\Below Y.heap.size Y w'):
  Calls Tryz.prog 83 #[some q] w fun r w'=>zbp q sp s {k with told:=k.told||gv} dn (.iface T x) sl most fs (yhk k.c k.op.a gv k.told++if dn=true then yhp k.c M++[zaf k.c k.op (zb1 M) er] else []) w w' r:=by
 obtain⟨i0,cc,cg,ch,cj⟩:=info_parts zdb;obtain⟨b1,sc,sm⟩:=s;obtain⟨n,kf,⟨ok,oa,on⟩,kj,L,ks⟩:=k;dsimp only[zat]at h ⊢;simp[go_sem]at m1 m2 m3 m4;replace c1:=hd' (c1 w hJ);replace c2:=hd' c2;replace c3:=hd' c3;replace c4:=hd' c4;have H:=hd' (fun Y Y' (hY:J Y) (hb:Below Y.heap.size Y Y')=>Z Y Y' hY ((Only.of_below (F:=fun _=>False) hb).weak (fun _ e=>e.elim)));replace Z:=hd' Z;have ck:q<w.heap.size:=h.lt;have lst:∀ b,foot sp sl b->b<w.heap.size:=fun b hb=>by rcases hb with rfl|hb;exact hs.lt;exact(hs.zem b hb).2
 have lq:q<w.heap.size:=h.lt;have x8:=ce (.iface T x) (h.cell 8);have U:=ce (.bool L) (h.cell 10);go_in;go_upto_region 2 with fail;go_cut [18] (fun f6 N=>f6= .bool (gv && !L)/\zaa N q #[b1,sc,sm,n,kf,ok,oa,on,.iface T x,.bool false,L,some sp,ks] 122/\SK 0 N sp sl most fs/\J N/\Below w.heap.size w N);case first=>
  cases gv<;>cases L
  ·go_wp2_with ((with_reducible refine c1.out.mono ?_);rintro r w1 ⟨rfl,j⟩;have z8:=zai j _ _ _ x8;have cm:=zai j _ _ _ U);go_meet;exact⟨rfl,h.below j,hs.below j,H.out _ _ hJ j,j⟩
  ·go_wp2_with ((with_reducible refine c1.out.mono ?_);rintro r w1 ⟨rfl,j⟩;have z8:=zai j _ _ _ x8;have cm:=zai j _ _ _ U);go_meet;exact⟨rfl,h.below j,hs.below j,H.out _ _ hJ j,j⟩
  ·go_wp2_with ((with_reducible refine c1.out.mono ?_);rintro r w1 ⟨rfl,j⟩;have z8:=zai j _ _ _ x8;have cm:=zai j _ _ _ U);go_meet;exact⟨rfl,h.below j,hs.below j,H.out _ _ hJ j,j⟩
  go_wp2_with ((with_reducible refine c1.out.mono ?_);rintro r w1 ⟨rfl,j⟩;have z8:=zai j _ _ _ x8;have cm:=zai j _ _ _ U);go_meet;exact⟨rfl,h.below j,hs.below j,H.out _ _ hJ j,j⟩
 case rest=>
  obtain⟨rfl,h1,b5,b3,j⟩:=hcut;obtain⟨V,rfl⟩:∃ V:World,V=wc:=⟨_,rfl⟩;have b6:Only (fun b=>b=q\/foot sp sl b) w V:=Only.of_below j;clear h hs hJ x8 U lq c1;have fh:=h1.lt;have ef:=zax h1;have U:=ce (.bool L) (h1.cell 10);go_upto_if 18 with fail;go_cut [3] (fun v3 N=>zaa N q #[b1,sc,sm,n,kf,ok,oa,on,.iface T x,.bool false,.bool (L||gv),some sp,ks] 122/\SK 0 N sp sl most fs/\J N/\Only (fun b=>b=q\/foot sp sl b) w N/\N.ownsRow w.heap.size 77 8 v3 (yhk n oa gv L).length ((yhk n oa gv L).flatMap fun e=>e.cells.toList));case first=>
   cases gv<;>cases L
   ·simp only[Bool.false_and,Bool.true_and,Bool.not_true,Bool.not_false];go_wp2;go_meet;exact⟨h1,b5,b3,b6,zel _ _⟩
   ·simp only[Bool.false_and,Bool.true_and,Bool.not_true,Bool.not_false];go_wp2;go_meet;exact⟨h1,b5,b3,b6,zel _ _⟩
   ·simp only[Bool.false_and,Bool.true_and,Bool.not_true,Bool.not_false];go_upto_region 4 with fail;have h2:=h1.set 10 (.bool true);have oq:Only (fun b=>b=q) V (V.setCell ⟨q,10,.none⟩ (.bool true)):=Only.setCell (F:=fun b=>b=q) (Only.refl _ _) (.inl rfl) _;have eu:=oq.stk b5 (fun b hb e=>e8 (e ▸ hb));have ek:=Z.out _ _ b3 (oq.weak (fun b e=>.inl e));have ea:=b6.trans oq (fun b _ hb=>.inl hb);replace h2:=h2.cast (cs':= #[b1,sc,sm,n,kf,ok,oa,on,.iface T x,.bool false,.bool true,some sp,ks]) rfl;generalize V.setCell ⟨q,10,.none⟩ (.bool true)=w2 at *;clear h1 b5 b3 b6 U oq ef;have ep:=ea.size;have lq:q<w2.heap.size:=h2.lt;have d3:=ci n (h2.cell 3);have d6:=ci oa (h2.cell 6);go_wp2_with fail
    go_region_law
     (first|(refine zbg (by rfl) (.tmp 22) (.tmp 33) 57 (by rfl) w.heap.size 77 i0 _ 8 64 Tryz.underlying57 cc cg ch cj rfl (by omega) _ 0 [] (by rfl) (zel _ _) _ 1 (zbw n oa).cells.toList (by rfl) (RdS.drew (evRd (zbw n oa) w2)) (zfo _) (by simp only[maxLen];omega) (by omega) (by simp;omega) ?_;intro v3 w3 l bb fa;have b9:=zaw ((Below.refl w.heap.size w2).alloc ep (.cells (zbw n oa).cells 77)).drew (zel w.heap.size _) (by simp;omega) bb))
    all_goals rw[Nat.zero_add,List.nil_append]at l;go_wp2;go_meet;exact⟨h2.belB b9 ck,(zdy b9).stk eu (fun b hb e=>by have:=lst b hb;omega),Z.out _ _ ek ((zdy b9).weak (fun b e=>.inr e)),zfp ea b9,l⟩
   simp only[Bool.false_and,Bool.true_and,Bool.not_true,Bool.not_false];go_wp2;go_meet;exact⟨h1,b5,b3,b6,zel _ _⟩
  case rest=>
   obtain⟨h3,cd,c8,bg,l⟩:=hcut
   have cu:=bg.size
   have ez:=h3.lt
   have y8:=ce (.iface T x) (h3.cell 8)
   have c5:=hd' (c2.out _ c8)
   obtain⟨V3,rfl⟩:∃ V:World,V=wc:=⟨_,rfl⟩
   cases dn with
   |false=>
    go_wp2_with ((with_reducible refine c5.out.mono ?_);rintro r w4 ⟨rfl,m⟩;have y9:=zai m _ _ _ y8)
    go_returns
    refine⟨⟨_,rfl,?_⟩,h3.below m,cd.below m,bg.tb m⟩
    have:=zav l m
    simpa using this
   |true=>
    have e6:(yhk n oa gv L).length<=1:=by unfold yhk;split<;>simp
    obtain⟨f8,f7,rfl,_,_,_⟩:=RdS.zew l
    go_upto_region 8 with((with_reducible refine c5.out.mono ?_);rintro r w4 ⟨rfl,m⟩;have y9:=zai m _ _ _ y8)
    have h4:=h3.below m
    have e9:=cd.below m
    have c9:=H.out _ _ c8 m
    have eb:=bg.tb m
    have R:=zav l m
    clear h3 cd c8 bg l cu ez y8 c5 y9 c2 m
    have f0:q<w4.heap.size:=h4.lt
    have y8:=ce (.iface T x) (h4.cell 8)
    obtain⟨bl,bp,bs,o,bn,bq,cs⟩:∃ bl bp bs o bn,gotV M= .tuple #[.agg #[.bool bl,.int .i64 bp,.int .i64 bs,.int .i64 o,.int .i64 bn],M.isSome]/\∀ b,M=some b->b=⟨bl,bp,bs,o,bn⟩:=by
     cases M with
     |none=>exact⟨_,_,_,_,_,rfl,fun b e=>by cases e⟩
     |some b=>exact⟨_,_,_,_,_,rfl,fun b' e=>by injection e with e;subst e;rfl⟩
    have b2:=c3.out w4 c9
    rw[bq]at b2
    replace b2:=hd' b2
    clear bq
    go_upto_if 50 with((with_reducible refine b2.out.mono ?_);rintro r w5 ⟨rfl,ba⟩)
    have b0:=ba.trans ((Below.refl w4.heap.size w5).alloc ba.size (.cells #[bl,bp,bs,o,bn] 203))
    have B:zaa (w5.alloc (.cells #[bl,bp,bs,o,bn] 203)) w5.heap.size #[bl,bp,bs,o,bn] 203:=heap_alloc_new _ _
    generalize w5.alloc (.cells #[bl,bp,bs,o,bn] 203)=w6 at *
    obtain⟨E,ej,bm⟩:=hidv w5.heap.size
    rw[<-bm]at B ⊢
    clear bm
    have f9:w4.heap.size<=E:=by have:=ba.size;have:=ej.out;omega
    have e7:∀ b,Value.ownBlock (.slice f8 (yhk n oa gv L).length f7)=some b->b<w4.heap.size:=fun b hb=>(R.lt b hb).2
    have h6:=h4.below b0
    have bf:=e9.below b0
    have b8:=H.out _ _ c9 b0
    have bh:=eb.tb b0
    have C:=zav R b0
    clear h4 e9 c9 eb R f0 y8 b2 c3 ba b0
    obtain⟨O,X⟩:∃ O,Hid (O=yhk n oa gv L++yhp n M):=⟨_,hd' rfl⟩
    go_cut [3,4] (fun v3 v4 N=>v4= .int .i64 (zb1 M)/\zaa N q #[b1,sc,sm,n,kf,ok,oa,on,.iface T x,.bool false,.bool (L||gv),some sp,ks] 122/\SK 0 N sp sl most fs/\J N/\Only (fun b=>b=q\/foot sp sl b) w N/\N.ownsRow w.heap.size 77 8 v3 O.length (O.flatMap fun e=>e.cells.toList))
    case first=>
     cases M with
     |none=>
      have e2:O=yhk n oa gv L:=by rw[X.out];simp[yhp]
      simp only[Option.isSome_none]
      go_wp2
      go_meet
      exact⟨rfl,h6,bf,b8,bh,by rw[e2];exact C⟩
     |some bk=>
      have e2:=X.out
      simp only[yhp,zb1]at e2 ⊢
      obtain⟨cy,cz,e5⟩:=hk bk rfl
      have c6:=hd' (fun W=>zjy bk W cy cz)
      have c7:=hd' (fun W=>zih bk W e5)
      clear hk cy cz e5
      have ex:Hid (zb1 (some bk)=bk.at'):=hd' rfl
      generalize bk.at'=bw at *
      generalize bk.len=bz at *
      have em:=cs bk rfl
      subst em
      dsimp only at c6 c7
      simp only[Option.isSome_some]
      have e0:=ce (.bool bl) (B.cell 0)
      have e1:=ci bp (B.cell 1)
      have ed:=ci bs (B.cell 2)
      have e3:=ci o (B.cell 3)
      have e4:=ci bn (B.cell 4)
      have ey:=B.lt
      have cp:=hd' (c6.out w6)
      go_upto_region 11 with(go_at_call 102;(with_reducible refine cp.out.mono ?_);rintro r w7 ⟨rfl,p⟩)
      have h7:=h6.below p
      have cf:=bf.below p
      have ca:=H.out _ _ b8 p
      have bi:=bh.tb p
      have D:=zav C p
      have eh:=B.below p
      clear h6 bf b8 bh C B e0 e1 ed e3 e4 ey cp c6 p
      have fb:=bi.size
      have cb:=h7.drew
      have bv:=eh.drew
      have fj:q<w7.drew.heap.size:=cb.lt
      have ff:E<w7.drew.heap.size:=bv.lt
      have hS:=hd' (fun (Y:World) (hr:zaa Y q #[b1,sc,sm,n,kf,ok,oa,on,.iface T x,.bool false,.bool (L||gv),some sp,ks] 122) (hB:zaa Y E #[bl,bp,bs,o,bn] 203)=>(⟨hr.cell 3,hB.cell 0,hB.cell 1,hB.cell 2,hB.cell 3,hB.cell 4⟩:Y.cell? ⟨q,3,.none⟩=some (.int .i64 n)/\Y.cell? ⟨E,0,.none⟩=some (.bool bl)/\Y.cell? ⟨E,1,.none⟩=some (.int .i64 bp)/\Y.cell? ⟨E,2,.none⟩=some (.int .i64 bs)/\Y.cell? ⟨E,3,.none⟩=some (.int .i64 o)/\Y.cell? ⟨E,4,.none⟩=some (.int .i64 bn)))
      have eg:=hd' (fun W=>c7.out W)
      clear c7
      have bc:=zav D br.drew
      go_region_held3 (fun Y=>Y.cell? ⟨q,3,.none⟩=some (.int .i64 n)/\Y.cell? ⟨E,0,.none⟩=some (.bool bl)/\Y.cell? ⟨E,1,.none⟩=some (.int .i64 bp)/\Y.cell? ⟨E,2,.none⟩=some (.int .i64 bs)/\Y.cell? ⟨E,3,.none⟩=some (.int .i64 o)/\Y.cell? ⟨E,4,.none⟩=some (.int .i64 bn))
       (first|exact hS.out _ cb bv|exact hS.out _ h8 b7|exact hS.out _ (h8.alloc _) (b7.alloc _)|exact hS.out _ h9 ei)
       (first|(go_at_call 103;(with_reducible refine(eg.out _).mono ?_);rintro r w8 ⟨rfl,b4⟩;have h8:=cb.below b4;have b7:=bv.below b4;have fc:w7.heap.size<=w8.heap.size:=b4.size;have z:=zav bc b4)|(refine zbg (by rfl) (.tmp 53) (.tmp 62) 57 (by rfl) w.heap.size 77 i0 _ 8 64 Tryz.underlying57 cc cg ch cj rfl (by omega) _ (yhk n oa gv L).length _ (by rfl) (zav z (br.alloc lr _)) _ 1 (zb5 n bw bz).cells.toList (by rfl) (evRd (zb5 n bw bz) _) (zfo _) (by simp only[maxLen];omega) (by omega) (by simp;omega) ?_;intro v9 w9 S y cr;have I:=zaw ((Below.refl w.heap.size w8).alloc (by omega) (.cells (zb5 n bw bz).cells 77)) (zav z (br.alloc lr _)) (by simp;omega) y;have h9:=h8.belB I ck;have ei:zaa w9 E #[bl,bp,bs,o,bn] 203:=(y.block E (by have:=b7.lt;simp;omega) (fun e=>by have:=e7 E e.symm;omega)).trans (b7.alloc _)))
      have bx:Below w7.heap.size w7 w8:=zab br.drew b4
      have ew:=(zdy I).stk (cf.below bx) (fun b hb e=>by have:=lst b hb;omega)
      have el:=Z.out _ _ (H.out _ _ ca bx) ((zdy I).weak (fun b e=>.inr e))
      have f5:=zfp (bi.tb bx) I
      go_wp2
      go_meet
      refine⟨by rw[ex.out],h9,ew,el,f5,?_⟩
      rw[e2,List.length_append,List.flatMap_append,List.flatMap_cons,List.flatMap_nil,List.append_nil]
      exact S
    case rest=>
     obtain⟨rfl,h7,cf,ca,bu,D⟩:=hcut
     obtain⟨V7,rfl⟩:∃ V:World,V=wc:=⟨_,rfl⟩
     have es:O.length<=2:=by
      rw[X.out,List.length_append]
      have:(yhp n M).length<=1:=by unfold yhp;split<;>simp
      omega
     clear h6 bf b8 bh C B e7 e6
     obtain⟨fl,fk,rfl,_,_,_⟩:=RdS.zew D
     have cv:=bu.size
     have fi:=h7.lt
     have y8:=ce (.iface T x) (h7.cell 8)
     have ec:=hd' (c4.out _ ca)
     have bj:=hd' (fun Y (hY:Below V7.heap.size V7 Y)=>zbn (s:=⟨b1,sc,sm⟩) (k:=⟨n,kf,⟨ok,oa,on⟩,kj,L||gv,ks⟩) (i:=false) (jv:= .iface T x) er (zb1 M) (h7.below hY) (cf.below hY) e8)
     dsimp only[zat,Ev.val,Ev.cells,zaf]at bj
     have cq:∀ b,w.heap.size<=b->¬ (b=q\/foot sp sl b):=fun b hb e=>by rcases e with rfl|e;omega;have:=lst b e;omega
     go_wp2_with (first|(go_at_call 56;(with_reducible refine(bj.out _ p).mono ?_);rintro r w8 ⟨rfl,h8,ev,cl⟩;have z:=zkk (zav D p) cl cq;have cx:w.heap.size<=w8.heap.size:=(Nat.le_trans cv (Nat.le_trans p.size cl.size)))|(refine zay rfl (.tmp 64) (.tmp 73) 57 rfl w.heap.size 77 i0 _ 8 64 Tryz.underlying57 cc cg ch cj rfl (by omega) _ O.length _ rfl (zav z (br.alloc lr _)) _ 1 (zaf n ⟨ok,oa,on⟩ (zb1 M) er).cells.toList rfl (evRd (zaf n ⟨ok,oa,on⟩ (zb1 M) er) _) (zfo _) (by simp only[maxLen];omega) (by omega) (by simp;omega) ?_;intro v9 w9 S y cr;have I:=zaw ((Below.refl w.heap.size w8).alloc cx (.cells (zaf n ⟨ok,oa,on⟩ (zb1 M) er).cells 77)) (zav z (br.alloc lr _)) (by simp;omega) y)|((with_reducible refine ec.out.mono ?_);rintro r w7 ⟨rfl,p⟩))
     go_returns
     have bi:=(bu.tb p).trans cl (fun _ _ e=>e)
     refine⟨⟨_,rfl,?_⟩,h8.belB I ck,(zdy I).stk ev (fun b hb e=>by rcases hb with rfl|hb;have:=lst b (.inl rfl);omega;cases hb),zfp bi I⟩
     rw[<-List.append_assoc,<- X.out,List.length_append,List.flatMap_append,List.flatMap_cons,List.flatMap_nil,List.append_nil]
     exact S
end

section

attribute [local go_sem] zat

open Go.RowKit

def JbO (F:Nat->Prop) (w:World) (v:Value) (s:Sh) (cl:Int):Jb->Prop
 | .mal r c=> ∃ q,v= .iface 171 (.pointer (some ⟨q,0,.none⟩))/\MalO F w q s cl r c
 | .fre f=> ∃ q,v= .iface 180 (.agg #[.pointer (some ⟨q,0,.none⟩)])/\FeO F w q s f
 | .aga t=> ∃ q,v= .iface 184 (.agg #[.pointer (some ⟨q,0,.none⟩)])/\RrO F w q s t
 | .hei a=> ∃ q,v= .iface 188 (.agg #[.pointer (some ⟨q,0,.none⟩)])/\AdO F w q s a
theorem JbO.only{F G:Nat->Prop}{w w':World}{v:Value}{s:Sh}{cl:Int}{j:Jb}(h:JbO F w v s cl j)(b:Only G w w')(hd:∀ k,F k->¬ G k):JbO F w' v s cl j:=by
 cases j with
 |mal r c=>obtain⟨q,e,h⟩:=h;exact⟨q,e,h.only b hd⟩
 |fre f=>obtain⟨q,e,h⟩:=h;exact⟨q,e,h.only b hd⟩
 |aga t=>obtain⟨q,e,h⟩:=h;exact⟨q,e,h.only b hd⟩
 |hei a=>obtain⟨q,e,h⟩:=h;exact⟨q,e,h.only b hd⟩
theorem JbO.below{F:Nat->Prop}{w w':World}{v:Value}{s:Sh}{cl:Int}{j:Jb}(h:JbO F w v s cl j)(hb:Below w.heap.size w w'):JbO F w' v s cl j:=h.only (Only.of_below (F:=fun _=>False) hb) (fun _ _ e=>e)
theorem yad{s:Sh}{cl:Int}{b:Blk}(h:b.fits s cl=true)(j:s.p<=64)(i:b.large=false->b.pages=0):(0<=b.page/\b.page<=64)/\(b.large=false->0<=b.slot/\b.slot<=16)/\(0<=b.pages/\b.pages<=64):=by
 have h1:=zdi.1 h;refine⟨by omega,fun f=>?_,?_⟩
 ·have h2:=h1.2.2.2.2 f;have:=zb4 (by omega:0<zah b.k);omega
 cases f:b.large
 ·rw[i f];omega
 have:=h1.2.2.2.1 f;omega
theorem zrh{t:Rs}{b:Blk}(f:t.got=some b):b.large=false->b.pages=0:=by
 intro i;obtain⟨k,pg,sk,rn⟩:=t;rcases sk with _|x
 ·rcases rn with _|y
  ·cases f
  unfold Rs.got at f;dsimp only at f;split at f
  ·injection f with f;subst f;cases i
  cases f
 unfold Rs.got at f;dsimp only at f;split at f
 ·injection f with f;subst f;rfl
 cases f
theorem z3z{s:Sh}{cl:Int}{j:Jb}{b:Blk}(h:jbIs s cl j)(n:mayB s.p s.c s.m=true)(hc:0<=cl/\cl<s.c)(l:j.took=some b):b.fits s cl=true/\(b.large=false->b.pages=0):=by
 cases j with
 |mal r c=>
  have i:(if zck c=true then r.got else none)=some b:=l;split at i
  ·exact⟨(zlb h.1 n hc i).1,zrh i⟩
  cases i
 |fre f=>cases l;|aga t=>
  have i:(if t.done=true/\t.err=0 then(match t.res with|some x=>x.got|none=>none) else none)=some b:=l;split at i
  ·rcases hr:t.res with _|r
   ·rw[hr]at i;cases i
   rw[hr]at i;exact⟨(zlb (h.res r hr) n hc i).1,zrh i⟩
  cases i
 |hei a=>cases l
theorem z6y{q sp:Nat}{G:Nat->Prop}{s:Sh}{k:Kl}{jv sl:Value}{most:Int}{fs:List Fr}{j:Jb}{w:World}(h:zaa w q (zat s k false jv (.pointer (some ⟨sp,0,.none⟩))) 122)(hs:SK 0 w sp sl most fs)(z:¬ foot sp sl q)(l:JbO G w jv s k.c j)(I:∀ b,G b->b≠q/\¬ foot sp sl b)(C:∀ b,G b->b<w.heap.size)
  (D:jbIs s k.c j) (E:mayB s.p s.c s.m=true) (hc:0<=k.c/\k.c<s.c):
  Calls Tryz.prog 83 #[some q] w fun r w'=>zbp q sp s {k with told:=k.told||j.gave} j.done jv sl most fs (k.tells j) w w' r:=by
 have hb:=zar.1 E;have y:=fun b F=>yad (z3z D E hc (b:=b) F).1 (by omega) (z3z D E hc F).2;have o:∀ Y n,JbO G Y jv s k.c j->Only (fun b=>b=q\/w.heap.size<=b) Y n->JbO G n jv s k.c j:=fun Y n h1 L=>h1.only L fun b h2 e=>by
  rcases e with e|e
  ·exact(I b h2).1 e
  have:=C b h2;omega
 have H:k.tells j=yhk k.c k.op.a j.gave k.told++if j.done=true then yhp k.c j.took++[zaf k.c k.op (zb1 j.took) j.err] else []:=by unfold Kl.tells yhk yhp;cases j.gave<;>cases j.done<;>cases k.told<;>cases j.took<;>simp
 rw[H];cases j with
 |mal r c=>
  obtain⟨q1,rfl,l⟩:=l
  exact yhr (J:=fun Y=>MalO G Y q1 s k.c r c) y h hs z l (fun Y n h1 h2=>by obtain⟨q2,e,h3⟩:=o Y n ⟨q1,rfl,h1⟩ h2;cases e;exact h3)
   (fun _=>by kernel_rfl) (fun _=>by kernel_rfl) (fun _=>by kernel_rfl) (fun _=>by kernel_rfl) (fun _=>by kernel_rfl) (fun _=>by kernel_rfl) (fun _=>by kernel_rfl) (fun _=>by kernel_rfl)
   (fun Y i=>zrs i) (fun Y i=>zv7 i) (fun Y i=>zno i) (fun Y i=>zm2 i)
 |fre f=>
  obtain⟨q1,rfl,l⟩:=l
  exact yhr (J:=fun Y=>FeO G Y q1 s f) y h hs z l (fun Y n h1 h2=>by obtain⟨q2,e,h3⟩:=o Y n ⟨q1,rfl,h1⟩ h2;cases e;exact h3)
   (fun _=>by kernel_rfl) (fun _=>by kernel_rfl) (fun _=>by kernel_rfl) (fun _=>by kernel_rfl) (fun _=>by kernel_rfl) (fun _=>by kernel_rfl) (fun _=>by kernel_rfl) (fun _=>by kernel_rfl)
   (fun Y i=>zm8 i) (fun Y i=>zqy i) (fun Y i=>zgh i) (fun Y i=>zf9 i)
 |aga t=>
  obtain⟨q1,rfl,l⟩:=l;have B:t.done=true->t.err=0->∃ r,t.res=some r:=fun h1 h2=>by obtain⟨r,b,f,e,_⟩:=D.fin h1 h2;exact⟨r,e⟩
  exact yhr (J:=fun Y=>RrO G Y q1 s t) y h hs z l (fun Y n h1 h2=>by obtain⟨q2,e,h3⟩:=o Y n ⟨q1,rfl,h1⟩ h2;cases e;exact h3)
   (fun _=>by kernel_rfl) (fun _=>by kernel_rfl) (fun _=>by kernel_rfl) (fun _=>by kernel_rfl) (fun _=>by kernel_rfl) (fun _=>by kernel_rfl) (fun _=>by kernel_rfl) (fun _=>by kernel_rfl)
   (fun Y i=>zgc B i) (fun Y i=>zii i) (fun Y i=>zd8 i) (fun Y i=>zd5 i)
 |hei a=>
  obtain⟨q1,rfl,l⟩:=l
  exact yhr (J:=fun Y=>AdO G Y q1 s a) y h hs z l (fun Y n h1 h2=>by obtain⟨q2,e,h3⟩:=o Y n ⟨q1,rfl,h1⟩ h2;cases e;exact h3)
   (fun _=>by kernel_rfl) (fun _=>by kernel_rfl) (fun _=>by kernel_rfl) (fun _=>by kernel_rfl) (fun _=>by kernel_rfl) (fun _=>by kernel_rfl) (fun _=>by kernel_rfl) (fun _=>by kernel_rfl)
   (fun Y i=>z0p i) (fun Y i=>z8a i) (fun Y i=>zqz i) (fun Y i=>zti i)
end

end Go.Proofs.YtedcnffebdpmmaaGreat
