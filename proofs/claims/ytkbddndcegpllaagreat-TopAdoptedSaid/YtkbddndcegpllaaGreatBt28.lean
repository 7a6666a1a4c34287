/- Texts bound together: CliA TelP TelJ CliT. -/
import Derived.Test.YtkbddndcegpllaaGreatBt26

import Derived.Test.YtkbddndcegpllaaGreatBt22

import Derived.Test.YtkbddndcegpllaaGreatBt27

set_option linter.all false
set_option maxHeartbeats 4000000
set_option maxRecDepth 100000
namespace Go.Proofs.YtkbddndcegpllaaGreat

attribute [local go_sem] zan

section

open Go.RowKit

attribute [local go_sem ↓] Go.wp_at_zero Go.wp_at_succ

def zat (s:Sh) (k:Kl) (idle:Bool) (jv sv:Value):Array Value:= #[s.p,s.c,s.m,k.c,k.first,k.op.k,k.op.a,k.op.n,jv,idle,k.told,sv,k.steps]
attribute [local go_sem] zat

theorem zbn{q sp:Nat}{s:Sh}{k:Kl}{i:Bool}{jv sl:Value}{most:Int}{fs:List Fr}(x at':Int){w:World}(h:zaa w q (zat s k i jv (.pointer (some ⟨sp,0,.none⟩))) 178)(hs:SK 0 w sp sl most fs)(S:¬ foot sp sl q):
  Calls Tryz.prog 114 #[some q,x,at'] w fun r w'=>r= .returned (zaf k.c k.op at' x).val/\zaa w' q (zat s k true .nilIface (.pointer (some ⟨sp,0,.none⟩))) 178/\SK 0 w' sp (.slice none 0 0) most []/\Only (fun b=>b=q\/foot sp sl b) w w':=by
 unfold Ev.val Ev.cells zaf;dsimp only;obtain⟨b2,sc,sm⟩:=s;obtain⟨n,kf,⟨ok,oa,on⟩,kj,kt,ks⟩:=k;dsimp only[zat]at h ⊢;have z:=(Below.refl w.heap.size w).alloc lr (.cells #[.int .i64 0,.int .i64 0,.int .i64 0,.int .i64 0,.int .i64 0,.int .i64 0,.int .i64 0,.int .i64 0] 66);have hE:zaa (w.alloc (.cells #[.int .i64 0,.int .i64 0,.int .i64 0,.int .i64 0,.int .i64 0,.int .i64 0,.int .i64 0,.int .i64 0] 66)) w.heap.size #[.int .i64 0,.int .i64 0,.int .i64 0,.int .i64 0,.int .i64 0,.int .i64 0,.int .i64 0,.int .i64 0] 66:=heap_alloc_new _ _;have lq:q<w.heap.size:=h.lt;go_in;go_upto_region 1 with fail;have M:=h.below z;have b0:=hs.below z;generalize w.alloc (.cells #[.int .i64 0,.int .i64 0,.int .i64 0,.int .i64 0,.int .i64 0,.int .i64 0,.int .i64 0,.int .i64 0] 66)=X at *;obtain⟨E,bi,C⟩:=hidv w.heap.size;rw[<-C]at hE ⊢;have l:w.heap.size<=E:=by omega
 have j:q≠E:=by omega
 have I:∀ b,foot sp sl b->b≠E:=fun b hb=>by
  rcases hb with rfl|hb
  ·have:=hs.lt;omega
  have:=hs.zem b hb;omega
 have b1:sp≠E:=I sp (.inl rfl);clear C;have lX:q<X.heap.size:=M.lt;have fX:=zax M;have b3:=M.cell;go_upto_region 2 with fail;have m:=(M.set 9 (.bool true)).set 8 .nilIface;have D:∀ b,foot sp sl b->b≠q:=fun b hb e=>S (e ▸ hb);have V:SK 0 ((X.setCell ⟨q,9,.none⟩ (.bool true)).setCell ⟨q,8,.none⟩ .nilIface) sp sl most fs:=b0.blocks fun b hb=>by rw[Below.heap_setCell _ ⟨q,8,.none⟩ _ b (D b hb),Below.heap_setCell _ ⟨q,9,.none⟩ _ b (D b hb)]
 have L:=(hE.other (fun e=>j e.symm) 9 (.bool true)).other (fun e=>j e.symm) 8 .nilIface;have O:Only (fun b=>b=q\/foot sp sl b) w ((X.setCell ⟨q,9,.none⟩ (.bool true)).setCell ⟨q,8,.none⟩ .nilIface):=Only.setCell (F:=fun b=>b=q\/foot sp sl b) (Only.setCell (F:=fun b=>b=q\/foot sp sl b) (Only.of_below z) (.inl (.inl rfl)) _) (.inl (.inl rfl)) _;generalize (X.setCell ⟨q,9,.none⟩ (.bool true)).setCell ⟨q,8,.none⟩ .nilIface=Y at *;clear b3 lX fX M b0 hs z;replace m:=m.cast (cs':= #[b2,sc,sm,n,kf,ok,oa,on,.nilIface,.bool true,kt,some sp,ks]) rfl;have lY:q<Y.heap.size:=m.lt;have b4:=m.cell;have N:=hd' (zq6 V);go_upto_region 3 with(go_at_call 148;(with_reducible refine N.out.mono ?_);rintro r w1 ⟨rfl,B,T⟩);have y:=m.only B S;have H:=L.only B (fun hb=>I E hb rfl);have R:=O.trans B (fun b _ hb=>.inr hb);clear lY b4 N m L O B V I;have bg:q<w1.heap.size:=y.lt;have bf:E<w1.heap.size:=H.lt;have b5:=y.cell;refine zad 11 (by kernel_rfl) (by kernel_rfl) ?_;dsimp only[List.take,List.drop];repeat (go_big_quiet_step (fail))
 refine wpQuiet_nil ?_;rintro _ ⟨J,rfl⟩;have b6:=y.below J.below;have o:=H.below J.below;have bc:=T.below J.below;have b9:=R.trans (Only.of_below (F:=fun _=>False) J.below) (fun _ _ hb=>hb.elim);generalize J.w=Z at *;change wpList _ _ _ _ _ Z;clear bg bf b5 y H T R;have lE:E<Z.heap.size:=o.lt;have fE:=zax o;have bh:=o.cell;go_wp2_with fail;have hF:zaa ((((((((Z.setCell ⟨E,0,.none⟩ (.int .i64 5)).setCell ⟨E,1,.none⟩ (.int .i64 n)).setCell ⟨E,2,.none⟩ (.int .i64 ok)).setCell ⟨E,3,.none⟩ (.int .i64 oa)).setCell ⟨E,4,.none⟩ (.int .i64 on)).setCell ⟨E,5,.none⟩ (.int .i64 at')).setCell ⟨E,6,.none⟩ (.int .i64 0)).setCell ⟨E,7,.none⟩ (.int .i64 x)) E #[.int .i64 5,n,ok,oa,on,at',.int .i64 0,x] 66:=((((((((o.set 0 (.int .i64 5)).set 1 (.int .i64 n)).set 2 (.int .i64 ok)).set 3 (.int .i64 oa)).set 4 (.int .i64 on)).set 5 (.int .i64 at')).set 6 (.int .i64 0)).set 7 (.int .i64 x));have ba:zaa ((((((((Z.setCell ⟨E,0,.none⟩ (.int .i64 5)).setCell ⟨E,1,.none⟩ (.int .i64 n)).setCell ⟨E,2,.none⟩ (.int .i64 ok)).setCell ⟨E,3,.none⟩ (.int .i64 oa)).setCell ⟨E,4,.none⟩ (.int .i64 on)).setCell ⟨E,5,.none⟩ (.int .i64 at')).setCell ⟨E,6,.none⟩ (.int .i64 0)).setCell ⟨E,7,.none⟩ (.int .i64 x)) q #[b2,sc,sm,n,kf,ok,oa,on,.nilIface,.bool true,kt,some sp,ks] 178:=((((((((b6.other j 0 (.int .i64 5)).other j 1 (.int .i64 n)).other j 2 (.int .i64 ok)).other j 3 (.int .i64 oa)).other j 4 (.int .i64 on)).other j 5 (.int .i64 at')).other j 6 (.int .i64 0)).other j 7 (.int .i64 x));have b8:Only (fun b=>b=q\/foot sp sl b) w ((((((((Z.setCell ⟨E,0,.none⟩ (.int .i64 5)).setCell ⟨E,1,.none⟩ (.int .i64 n)).setCell ⟨E,2,.none⟩ (.int .i64 ok)).setCell ⟨E,3,.none⟩ (.int .i64 oa)).setCell ⟨E,4,.none⟩ (.int .i64 on)).setCell ⟨E,5,.none⟩ (.int .i64 at')).setCell ⟨E,6,.none⟩ (.int .i64 0)).setCell ⟨E,7,.none⟩ (.int .i64 x)):=((((((((b9.setCell (p:=⟨E,0,.none⟩) (.inr l) (.int .i64 5)).setCell (p:=⟨E,1,.none⟩) (.inr l) (.int .i64 n)).setCell (p:=⟨E,2,.none⟩) (.inr l) (.int .i64 ok)).setCell (p:=⟨E,3,.none⟩) (.inr l) (.int .i64 oa)).setCell (p:=⟨E,4,.none⟩) (.inr l) (.int .i64 on)).setCell (p:=⟨E,5,.none⟩) (.inr l) (.int .i64 at')).setCell (p:=⟨E,6,.none⟩) (.inr l) (.int .i64 0)).setCell (p:=⟨E,7,.none⟩) (.inr l) (.int .i64 x));have bb:SK 0 ((((((((Z.setCell ⟨E,0,.none⟩ (.int .i64 5)).setCell ⟨E,1,.none⟩ (.int .i64 n)).setCell ⟨E,2,.none⟩ (.int .i64 ok)).setCell ⟨E,3,.none⟩ (.int .i64 oa)).setCell ⟨E,4,.none⟩ (.int .i64 on)).setCell ⟨E,5,.none⟩ (.int .i64 at')).setCell ⟨E,6,.none⟩ (.int .i64 0)).setCell ⟨E,7,.none⟩ (.int .i64 x)) sp (.slice none 0 0) most []:=bc.blocks fun b hb=>by
  have b7:b≠E:=by
   rcases hb with rfl|hb
   ·exact b1
   cases hb
  simp only[Below.heap_setCell _ ⟨E,_,.none⟩ _ b b7]
 generalize (((((((Z.setCell ⟨E,0,.none⟩ (.int .i64 5)).setCell ⟨E,1,.none⟩ (.int .i64 n)).setCell ⟨E,2,.none⟩ (.int .i64 ok)).setCell ⟨E,3,.none⟩ (.int .i64 oa)).setCell ⟨E,4,.none⟩ (.int .i64 on)).setCell ⟨E,5,.none⟩ (.int .i64 at')).setCell ⟨E,6,.none⟩ (.int .i64 0)).setCell ⟨E,7,.none⟩ (.int .i64 x)=U at *;obtain⟨r0,r1,r2,r3,r4,r5,r6,r7⟩:=ci8 5 n ok oa on at' 0 x hF.cell;exact bodyPost_ret (v:= .agg #[.int .i64 5,n,ok,oa,on,at',.int .i64 0,x]) (by simp[results,Tryz.results114,go_sem,r0,r1,r2,r3,r4,r5,r6,r7]) rfl ⟨rfl,ba,bb,b8⟩
end

section

attribute [local go_sem] zat

open Go.RowKit

theorem zdb:(Tryz.prog.info? 66).map (fun i=>(i.zero,i.size,i.bytes))=some (some (.agg #[.int .i64 0,.int .i64 0,.int .i64 0,.int .i64 0,.int .i64 0,.int .i64 0,.int .i64 0,.int .i64 0]),8,64):=by kernel_rfl
theorem zel(B:Nat)(w:World):w.ownsRow B 66 8 (.slice none 0 0) 0 []:=⟨by simp,.inl ⟨rfl,rfl⟩⟩
theorem zfo(e:Ev):∀ u ∈ e.cells.toList,u.oneCell'=true:=by
 intro u hu;simp only[Ev.cells,List.mem_cons,List.not_mem_nil,or_false]at hu;rcases hu with rfl|rfl|rfl|rfl|rfl|rfl|rfl|rfl<;>rfl
theorem evRd(e:Ev)(X:World):RdS (X.alloc (.cells e.cells 66)) 8 (.slice (some ⟨X.heap.size,0,.none⟩) 1 1) 1 e.cells.toList:=RdS.new (heap_alloc_new _ _) rfl (by decide)
theorem zav{w w':World}{B:Nat}{E:TypeId}{size:Nat}{v:Value}{n:Nat}{xs:List Value}(h:w.ownsRow B E size v n xs)(hb:Below w.heap.size w w'):w'.ownsRow B E size v n xs:=
 zas h fun k b=>hb.block k (h.lt k b).2
theorem zkk{w w':World}{B:Nat}{F:Nat->Prop}{E:TypeId}{size:Nat}{v:Value}{n:Nat}{xs:List Value}(h:w.ownsRow B E size v n xs)(j:Only F w w')(i:∀ b,B<=b->¬ F b):w'.ownsRow B E size v n xs:=
 zas h fun k f=>j.block k (h.lt k f).2 (i k (h.lt k f).1)
theorem zaa.belB{B:Nat}{w w':World}{q:Nat}{cs:Array Value}{T:TypeId}(h:zaa w q cs T)(hb:Below B w w')(b:q<B):zaa w' q cs T:=(hb.block q b).trans h
theorem zfp{F:Nat->Prop}{w X Y:World}(h:Only F w X)(hb:Below w.heap.size X Y):Only F w Y:=
 ⟨hb.os.trans h.os,hb.tape.trans h.tape,hb.output.trans h.output,Nat.le_trans h.size hb.size,fun k b f=>(hb.block k b).trans (h.block k b f)⟩
theorem zdy{B:Nat}{w w':World}(hb:Below B w w'):Only (fun b=>B<=b) w w':=⟨hb.os,hb.tape,hb.output,hb.size,fun k _ f=>hb.block k (by omega)⟩
def AdO (F:Nat->Prop) (w:World) (q:Nat) (s:Sh) (a:Ad):Prop:=F q/\zaa w q (zan s a) 282
theorem AdO.only{F G:Nat->Prop}{w w':World}{q:Nat}{s:Sh}{a:Ad}(h:AdO F w q s a)(b:Only G w w')(hd:∀ k,F k->¬ G k):AdO F w' q s a:=⟨h.1,h.2.only b (hd q h.1)⟩
theorem AdO.below{F:Nat->Prop}{w w':World}{q:Nat}{s:Sh}{a:Ad}(h:AdO F w q s a)(hb:Below w.heap.size w w'):AdO F w' q s a:=⟨h.1,h.2.below hb⟩
theorem FeO.below{F:Nat->Prop}{w w':World}{q:Nat}{s:Sh}{t:Fe}(h:FeO F w q s t)(hb:Below w.heap.size w w'):FeO F w' q s t:=h.only (Only.of_below (F:=fun _=>False) hb) (fun _ _ e=>e)
theorem MalO.below{F:Nat->Prop}{w w':World}{q:Nat}{s:Sh}{cl:Int}{r:Rs}{c:Option Cm}(h:MalO F w q s cl r c)(hb:Below w.heap.size w w'):MalO F w' q s cl r c:=h.only (Only.of_below (F:=fun _=>False) hb) (fun _ _ e=>e)
structure zbp (q sp:Nat) (s:Sh) (k:Kl) (d:Bool) (jv sl:Value) (most:Int) (fs:List Fr) (es:List Ev) (w w':World) (r:Ending):Prop where
 ret:∃ v,r= .returned v/\w'.ownsRow w.heap.size 66 8 v es.length (es.flatMap fun e=> e.cells.toList)
 row:zaa w' q (zat s k d (if d=true then .nilIface else jv) (.pointer (some ⟨sp,0,.none⟩))) 178
 stk:SK 0 w' sp (if d=true then .slice none 0 0 else sl) most (if d=true then [] else fs)
 only:Only (fun b=> b=q\/foot sp sl b) w w'
section

attribute [local go_sem] zat

variable {G:Nat->Prop} {Y:World} {q1:Nat} {s:Sh}

theorem zgh{f:Fe}(h:FeO G Y q1 s f):Calls Tryz.prog 281 #[.agg #[some q1]] Y fun e w'=>e= .returned (.bool f.gave)/\Below Y.heap.size Y w':=by
 obtain⟨_,q2,b,_⟩:=h;exact zxu q1 _ f.gave Y b.row rfl
theorem zf9{f:Fe}(h:FeO G Y q1 s f):Calls Tryz.prog 193 #[some q1] Y fun e w'=>e= .returned (.bool f.done)/\Below Y.heap.size Y w':=by
 obtain⟨_,q2,b,_⟩:=h;exact(zkw q1 _ f.done Y b.row rfl).mono (fun e w' h=>⟨h.1,h.2 ▸ Below.refl _ _⟩)
theorem zm8{f:Fe}(_h:FeO G Y q1 s f):Calls Tryz.prog 282 #[.agg #[some q1]] Y fun e w'=>e= .returned (gotV none)/\Below Y.heap.size Y w':=zze _ Y
theorem zqy{f:Fe}(h:FeO G Y q1 s f):Calls Tryz.prog 280 #[.agg #[some q1]] Y fun e w'=>e= .returned (.int .i64 (Jb.fre f).err)/\Below Y.heap.size Y w':=by
 obtain⟨_,q2,b,_⟩:=h;exact z2s q1 _ f.gave Y b.row rfl
theorem zd8{t:Rr}(h:RrO G Y q1 s t):Calls Tryz.prog 287 #[.agg #[some q1]] Y fun e w'=>e= .returned (.bool (Jb.aga t).gave)/\Below Y.heap.size Y w':=zyz h
theorem zd5{t:Rr}(h:RrO G Y q1 s t):Calls Tryz.prog 283 #[some q1] Y fun e w'=>e= .returned (.bool t.done)/\Below Y.heap.size Y w':=by
 obtain⟨_,_,_,_,_,_,_,_,_,_,b,_⟩:=h;exact(zzc q1 _ t.done Y b rfl).mono (fun e w' h=>⟨h.1,h.2 ▸ Below.refl _ _⟩)
theorem zgc{t:Rr}(hd:t.done=true->t.err=0->∃ r,t.res=some r)(h:RrO G Y q1 s t):Calls Tryz.prog 288 #[.agg #[some q1]] Y fun e w'=>e= .returned (gotV (Jb.aga t).took)/\Below Y.heap.size Y w':=zzp h hd
theorem zii{t:Rr}(h:RrO G Y q1 s t):Calls Tryz.prog 286 #[.agg #[some q1]] Y fun e w'=>e= .returned (.int .i64 (Jb.aga t).err)/\Below Y.heap.size Y w':=by
 obtain⟨_,_,_,_,_,_,_,_,_,_,b,_⟩:=h;exact z1d q1 s t _ _ _ _ Y b
theorem zno{cl:Int}{r:Rs}{c:Option Cm}(_h:MalO G Y q1 s cl r c):Calls Tryz.prog 251 #[some q1] Y fun e w'=>e= .returned (.bool false)/\Below Y.heap.size Y w':=(ztz _ Y).mono (fun e w' h=>⟨h.1,h.2 ▸ Below.refl _ _⟩)
theorem zm2{cl:Int}{r:Rs}{c:Option Cm}(h:MalO G Y q1 s cl r c):Calls Tryz.prog 248 #[some q1] Y fun e w'=>e= .returned (.bool (Jb.mal r c).done)/\Below Y.heap.size Y w':=zvm h
theorem zrs{cl:Int}{r:Rs}{c:Option Cm}(h:MalO G Y q1 s cl r c):Calls Tryz.prog 252 #[some q1] Y fun e w'=>e= .returned (gotV (Jb.mal r c).took)/\Below Y.heap.size Y w':=zux h
theorem zv7{cl:Int}{r:Rs}{c:Option Cm}(h:MalO G Y q1 s cl r c):Calls Tryz.prog 250 #[some q1] Y fun e w'=>e= .returned (.int .i64 (Jb.mal r c).err)/\Below Y.heap.size Y w':=zy3 h
theorem zqz{a:Ad}(_h:AdO G Y q1 s a):Calls Tryz.prog 303 #[.agg #[some q1]] Y fun e w'=>e= .returned (.bool false)/\Below Y.heap.size Y w':=zy9 _ Y
theorem zti{a:Ad}(h:AdO G Y q1 s a):Calls Tryz.prog 292 #[some q1] Y fun e w'=>e= .returned (.bool a.done)/\Below Y.heap.size Y w':=(zxq q1 _ a.done Y h.2 rfl).mono (fun e w' h=>⟨h.1,h.2 ▸ Below.refl _ _⟩)
theorem z0p{a:Ad}(_h:AdO G Y q1 s a):Calls Tryz.prog 304 #[.agg #[some q1]] Y fun e w'=>e= .returned (gotV none)/\Below Y.heap.size Y w':=zx3 _ Y
theorem z8a{a:Ad}(h:AdO G Y q1 s a):Calls Tryz.prog 302 #[.agg #[some q1]] Y fun e w'=>e= .returned (.int .i64 a.err)/\Below Y.heap.size Y w':=zz3 q1 s a Y h.2
end

end

section

attribute [local go_sem] zat

open Go.RowKit

attribute [local go_sem ↓] Go.wp_at_zero Go.wp_at_succ

def yhk (c a:Int) (g t:Bool):List Ev:=if g=true/\t=false then [zbw c a] else []
def yhp (c:Int):Option Blk->List Ev
 | some b=> [zb5 c b.at' b.len]
 | none=> []
theorem yhr{q sp:Nat}{s:Sh}{k:Kl}{sl:Value}{most:Int}{fs:List Fr}{T:TypeId}{x:Value}{fg fd ft fe:FuncId}{rg rd rt re:Value}{er:Int}{dn:Bool}{tk:Option Blk}{J:World->Prop}{gv:Bool}{w:World}(hk:∀ b,tk=some b->(0<=b.page/\b.page<=64)/\(b.large=false->0<=b.slot/\b.slot<=16)/\(0<=b.pages/\b.pages<=64))(h:zaa w q (zat s k false (.iface T x) (.pointer (some ⟨sp,0,.none⟩))) 178)(hs:SK 0 w sp sl most fs)(e7:¬ foot sp sl q)(hJ:J w)(X:∀ Y Y',J Y->Only (fun b=>b=q\/w.heap.size<=b) Y Y'->J Y')
  (m1:∀ W:World,(method (Tryz.prog.types.size+Made.depth) T x "allotment/client.gave").run Tryz.prog W= .ok (fg,rg) W) (m2:∀ W:World,(method (Tryz.prog.types.size+Made.depth) T x "Done").run Tryz.prog W= .ok (fd,rd) W)
  (f1:∀ W:World,(callFunc fg #[rg]).run Tryz.prog W= .ok (.enter fg #[rg]) W) (f2:∀ W:World,(callFunc fd #[rd]).run Tryz.prog W= .ok (.enter fd #[rd]) W)
  (m3:∀ W:World,(method (Tryz.prog.types.size+Made.depth) T x "allotment/client.took").run Tryz.prog W= .ok (ft,rt) W) (m4:∀ W:World,(method (Tryz.prog.types.size+Made.depth) T x "allotment/client.err").run Tryz.prog W= .ok (fe,re) W)
  (f3:∀ W:World,(callFunc ft #[rt]).run Tryz.prog W= .ok (.enter ft #[rt]) W) (f4:∀ W:World,(callFunc fe #[re]).run Tryz.prog W= .ok (.enter fe #[re]) W)
  (c3:∀ Y,J Y->Calls Tryz.prog ft #[rt] Y fun e w'=>e= .returned (gotV tk)/\Below Y.heap.size Y w') (c4:∀ Y,J Y->Calls Tryz.prog fe #[re] Y fun e w'=>e= .returned (.int .i64 er)/\Below Y.heap.size Y w')
  (c1:∀ Y,J Y->Calls Tryz.prog fg #[rg] Y fun e w'=>e= .returned (.bool gv)/\Below Y.heap.size Y w') (c2:∀ Y,J Y->Calls Tryz.prog fd #[rd] Y fun e w'=>e= .returned (.bool dn)/\Below Y.heap.size Y w'):
  Calls Tryz.prog 146 #[some q] w fun r w'=>zbp q sp s {k with told:=k.told||gv} dn (.iface T x) sl most fs (yhk k.c k.op.a gv k.told++if dn=true then yhp k.c tk++[zaf k.c k.op (zb1 tk) er] else []) w w' r:=by
 obtain⟨i0,cb,cf,cg,ch⟩:=info_parts zdb;obtain⟨b0,sc,sm⟩:=s;obtain⟨n,kf,⟨ok,oa,on⟩,kj,L,ks⟩:=k;dsimp only[zat]at h ⊢;simp[go_sem]at m1 m2 m3 m4;replace c1:=hd' (c1 w hJ);replace c2:=hd' c2;replace c3:=hd' c3;replace c4:=hd' c4;have H:=hd' (fun Y Y' (hY:J Y) (hb:Below Y.heap.size Y Y')=>X Y Y' hY ((Only.of_below (F:=fun _=>False) hb).weak (fun _ e=>e.elim)));replace X:=hd' X;have cj:q<w.heap.size:=h.lt;have lst:∀ b,foot sp sl b->b<w.heap.size:=fun b hb=>by rcases hb with rfl|hb;exact hs.lt;exact(hs.zem b hb).2
 have lq:q<w.heap.size:=h.lt;have x8:=ce (.iface T x) (h.cell 8);have S:=ce (.bool L) (h.cell 10);go_in;go_upto_region 2 with fail;go_cut [18] (fun f5 M=>f5= .bool (gv && !L)/\zaa M q #[b0,sc,sm,n,kf,ok,oa,on,.iface T x,.bool false,L,some sp,ks] 178/\SK 0 M sp sl most fs/\J M/\Below w.heap.size w M);case first=>
  cases gv<;>cases L
  ·go_wp2_with ((with_reducible refine c1.out.mono ?_);rintro r w1 ⟨rfl,j⟩;have z8:=zai j _ _ _ x8;have cl:=zai j _ _ _ S);go_meet;exact⟨rfl,h.below j,hs.below j,H.out _ _ hJ j,j⟩
  ·go_wp2_with ((with_reducible refine c1.out.mono ?_);rintro r w1 ⟨rfl,j⟩;have z8:=zai j _ _ _ x8;have cl:=zai j _ _ _ S);go_meet;exact⟨rfl,h.below j,hs.below j,H.out _ _ hJ j,j⟩
  ·go_wp2_with ((with_reducible refine c1.out.mono ?_);rintro r w1 ⟨rfl,j⟩;have z8:=zai j _ _ _ x8;have cl:=zai j _ _ _ S);go_meet;exact⟨rfl,h.below j,hs.below j,H.out _ _ hJ j,j⟩
  go_wp2_with ((with_reducible refine c1.out.mono ?_);rintro r w1 ⟨rfl,j⟩;have z8:=zai j _ _ _ x8;have cl:=zai j _ _ _ S);go_meet;exact⟨rfl,h.below j,hs.below j,H.out _ _ hJ j,j⟩
 case rest=>
  obtain⟨rfl,h1,b4,b2,j⟩:=hcut;obtain⟨V,rfl⟩:∃ V:World,V=wc:=⟨_,rfl⟩;have b5:Only (fun b=>b=q\/foot sp sl b) w V:=Only.of_below j;clear h hs hJ x8 S lq c1;have fh:=h1.lt;have ed:=zax h1;have S:=ce (.bool L) (h1.cell 10);go_upto_if 18 with fail;go_cut [3] (fun v3 M=>zaa M q #[b0,sc,sm,n,kf,ok,oa,on,.iface T x,.bool false,.bool (L||gv),some sp,ks] 178/\SK 0 M sp sl most fs/\J M/\Only (fun b=>b=q\/foot sp sl b) w M/\M.ownsRow w.heap.size 66 8 v3 (yhk n oa gv L).length ((yhk n oa gv L).flatMap fun e=>e.cells.toList));case first=>
   cases gv<;>cases L
   ·simp only[Bool.false_and,Bool.true_and,Bool.not_true,Bool.not_false];go_wp2;go_meet;exact⟨h1,b4,b2,b5,zel _ _⟩
   ·simp only[Bool.false_and,Bool.true_and,Bool.not_true,Bool.not_false];go_wp2;go_meet;exact⟨h1,b4,b2,b5,zel _ _⟩
   ·simp only[Bool.false_and,Bool.true_and,Bool.not_true,Bool.not_false];go_upto_region 4 with fail;have h2:=h1.set 10 (.bool true);have oq:Only (fun b=>b=q) V (V.setCell ⟨q,10,.none⟩ (.bool true)):=Only.setCell (F:=fun b=>b=q) (Only.refl _ _) (.inl rfl) _;have es:=oq.stk b4 (fun b hb e=>e7 (e ▸ hb));have ej:=X.out _ _ b2 (oq.weak (fun b e=>.inl e));have e9:=b5.trans oq (fun b _ hb=>.inl hb);replace h2:=h2.cast (cs':= #[b0,sc,sm,n,kf,ok,oa,on,.iface T x,.bool false,.bool true,some sp,ks]) rfl;generalize V.setCell ⟨q,10,.none⟩ (.bool true)=w2 at *;clear h1 b4 b2 b5 S oq ed;have em:=e9.size;have lq:q<w2.heap.size:=h2.lt;have d3:=ci n (h2.cell 3);have d6:=ci oa (h2.cell 6);go_wp2_with fail
    go_region_law
     (first|(refine zbg (by rfl) (.tmp 22) (.tmp 33) 63 (by rfl) w.heap.size 66 i0 _ 8 64 Tryz.underlying63 cb cf cg ch rfl (by omega) _ 0 [] (by rfl) (zel _ _) _ 1 (zbw n oa).cells.toList (by rfl) (RdS.drew (evRd (zbw n oa) w2)) (zfo _) (by simp only[maxLen];omega) (by omega) (by simp;omega) ?_;intro v3 w3 l ba f9;have b8:=zaw ((Below.refl w.heap.size w2).alloc em (.cells (zbw n oa).cells 66)).drew (zel w.heap.size _) (by simp;omega) ba))
    all_goals rw[Nat.zero_add,List.nil_append]at l;go_wp2;go_meet;exact⟨h2.belB b8 cj,(zdy b8).stk es (fun b hb e=>by have:=lst b hb;omega),X.out _ _ ej ((zdy b8).weak (fun b e=>.inr e)),zfp e9 b8,l⟩
   simp only[Bool.false_and,Bool.true_and,Bool.not_true,Bool.not_false];go_wp2;go_meet;exact⟨h1,b4,b2,b5,zel _ _⟩
  case rest=>
   obtain⟨h3,cc,c7,bf,l⟩:=hcut
   have cs:=bf.size
   have ey:=h3.lt
   have y8:=ce (.iface T x) (h3.cell 8)
   have bz:=hd' (c2.out _ c7)
   obtain⟨V3,rfl⟩:∃ V:World,V=wc:=⟨_,rfl⟩
   cases dn with
   |false=>
    go_wp2_with ((with_reducible refine bz.out.mono ?_);rintro r w4 ⟨rfl,m⟩;have y9:=zai m _ _ _ y8)
    go_returns
    refine⟨⟨_,rfl,?_⟩,h3.below m,cc.below m,bf.tb m⟩
    have:=zav l m
    simpa using this
   |true=>
    have e5:(yhk n oa gv L).length<=1:=by unfold yhk;split<;>simp
    obtain⟨f7,f6,rfl,_,_,_⟩:=RdS.zew l
    go_upto_region 8 with((with_reducible refine bz.out.mono ?_);rintro r w4 ⟨rfl,m⟩;have y9:=zai m _ _ _ y8)
    have h4:=h3.below m
    have e8:=cc.below m
    have c8:=H.out _ _ c7 m
    have ea:=bf.tb m
    have O:=zav l m
    clear h3 cc c7 bf l cs ey y8 bz y9 c2 m
    have ez:q<w4.heap.size:=h4.lt
    have y8:=ce (.iface T x) (h4.cell 8)
    obtain⟨bl,bp,bs,o,bn,bm,cr⟩:∃ bl bp bs o bn,gotV tk= .tuple #[.agg #[.bool bl,.int .i64 bp,.int .i64 bs,.int .i64 o,.int .i64 bn],tk.isSome]/\∀ b,tk=some b->b=⟨bl,bp,bs,o,bn⟩:=by
     cases tk with
     |none=>exact⟨_,_,_,_,_,rfl,fun b e=>by cases e⟩
     |some b=>exact⟨_,_,_,_,_,rfl,fun b' e=>by injection e with e;subst e;rfl⟩
    have b1:=c3.out w4 c8
    rw[bm]at b1
    replace b1:=hd' b1
    clear bm
    go_upto_if 50 with((with_reducible refine b1.out.mono ?_);rintro r w5 ⟨rfl,b9⟩)
    have Z:=b9.trans ((Below.refl w4.heap.size w5).alloc b9.size (.cells #[bl,bp,bs,o,bn] 264))
    have B:zaa (w5.alloc (.cells #[bl,bp,bs,o,bn] 264)) w5.heap.size #[bl,bp,bs,o,bn] 264:=heap_alloc_new _ _
    generalize w5.alloc (.cells #[bl,bp,bs,o,bn] 264)=w6 at *
    obtain⟨E,ei,bj⟩:=hidv w5.heap.size
    rw[<-bj]at B ⊢
    clear bj
    have f8:w4.heap.size<=E:=by have:=b9.size;have:=ei.out;omega
    have e6:∀ b,Value.ownBlock (.slice f7 (yhk n oa gv L).length f6)=some b->b<w4.heap.size:=fun b hb=>(O.lt b hb).2
    have h6:=h4.below Z
    have bc:=e8.below Z
    have b7:=H.out _ _ c8 Z
    have bg:=ea.tb Z
    have C:=zav O Z
    clear h4 e8 c8 ea O ez y8 b1 c3 b9 Z
    obtain⟨N,U⟩:∃ N,Hid (N=yhk n oa gv L++yhp n tk):=⟨_,hd' rfl⟩
    go_cut [3,4] (fun v3 v4 M=>v4= .int .i64 (zb1 tk)/\zaa M q #[b0,sc,sm,n,kf,ok,oa,on,.iface T x,.bool false,.bool (L||gv),some sp,ks] 178/\SK 0 M sp sl most fs/\J M/\Only (fun b=>b=q\/foot sp sl b) w M/\M.ownsRow w.heap.size 66 8 v3 N.length (N.flatMap fun e=>e.cells.toList))
    case first=>
     cases tk with
     |none=>
      have e2:N=yhk n oa gv L:=by rw[U.out];simp[yhp]
      simp only[Option.isSome_none]
      go_wp2
      go_meet
      exact⟨rfl,h6,bc,b7,bg,by rw[e2];exact C⟩
     |some bk=>
      have e2:=U.out
      simp only[yhp,zb1]at e2 ⊢
      obtain⟨cx,cy,cz⟩:=hk bk rfl
      have c5:=hd' (fun W=>zjy bk W cx cy)
      have c6:=hd' (fun W=>zih bk W cz)
      clear hk cx cy cz
      have ew:Hid (zb1 (some bk)=bk.at'):=hd' rfl
      generalize bk.at'=bv at *
      generalize bk.len=bx at *
      have el:=cr bk rfl
      subst el
      dsimp only at c5 c6
      simp only[Option.isSome_some]
      have e0:=ce (.bool bl) (B.cell 0)
      have e1:=ci bp (B.cell 1)
      have ec:=ci bs (B.cell 2)
      have e3:=ci o (B.cell 3)
      have e4:=ci bn (B.cell 4)
      have ex:=B.lt
      have cm:=hd' (c5.out w6)
      go_upto_region 11 with(go_at_call 170;(with_reducible refine cm.out.mono ?_);rintro r w7 ⟨rfl,p⟩)
      have h7:=h6.below p
      have cd:=bc.below p
      have c9:=H.out _ _ b7 p
      have bh:=bg.tb p
      have D:=zav C p
      have eg:=B.below p
      clear h6 bc b7 bg C B e0 e1 ec e3 e4 ex cm c5 p
      have fa:=bh.size
      have ca:=h7.drew
      have bu:=eg.drew
      have fj:q<w7.drew.heap.size:=ca.lt
      have fc:E<w7.drew.heap.size:=bu.lt
      have hS:=hd' (fun (Y:World) (hr:zaa Y q #[b0,sc,sm,n,kf,ok,oa,on,.iface T x,.bool false,.bool (L||gv),some sp,ks] 178) (hB:zaa Y E #[bl,bp,bs,o,bn] 264)=>(⟨hr.cell 3,hB.cell 0,hB.cell 1,hB.cell 2,hB.cell 3,hB.cell 4⟩:Y.cell? ⟨q,3,.none⟩=some (.int .i64 n)/\Y.cell? ⟨E,0,.none⟩=some (.bool bl)/\Y.cell? ⟨E,1,.none⟩=some (.int .i64 bp)/\Y.cell? ⟨E,2,.none⟩=some (.int .i64 bs)/\Y.cell? ⟨E,3,.none⟩=some (.int .i64 o)/\Y.cell? ⟨E,4,.none⟩=some (.int .i64 bn)))
      have ef:=hd' (fun W=>c6.out W)
      clear c6
      have bb:=zav D br.drew
      go_region_held3 (fun Y=>Y.cell? ⟨q,3,.none⟩=some (.int .i64 n)/\Y.cell? ⟨E,0,.none⟩=some (.bool bl)/\Y.cell? ⟨E,1,.none⟩=some (.int .i64 bp)/\Y.cell? ⟨E,2,.none⟩=some (.int .i64 bs)/\Y.cell? ⟨E,3,.none⟩=some (.int .i64 o)/\Y.cell? ⟨E,4,.none⟩=some (.int .i64 bn))
       (first|exact hS.out _ ca bu|exact hS.out _ h8 b6|exact hS.out _ (h8.alloc _) (b6.alloc _)|exact hS.out _ h9 eh)
       (first|(go_at_call 171;(with_reducible refine(ef.out _).mono ?_);rintro r w8 ⟨rfl,b3⟩;have h8:=ca.below b3;have b6:=bu.below b3;have fb:w7.heap.size<=w8.heap.size:=b3.size;have z:=zav bb b3)|(refine zbg (by rfl) (.tmp 53) (.tmp 62) 63 (by rfl) w.heap.size 66 i0 _ 8 64 Tryz.underlying63 cb cf cg ch rfl (by omega) _ (yhk n oa gv L).length _ (by rfl) (zav z (br.alloc lr _)) _ 1 (zb5 n bv bx).cells.toList (by rfl) (evRd (zb5 n bv bx) _) (zfo _) (by simp only[maxLen];omega) (by omega) (by simp;omega) ?_;intro v9 w9 R y cq;have I:=zaw ((Below.refl w.heap.size w8).alloc (by omega) (.cells (zb5 n bv bx).cells 66)) (zav z (br.alloc lr _)) (by simp;omega) y;have h9:=h8.belB I cj;have eh:zaa w9 E #[bl,bp,bs,o,bn] 264:=(y.block E (by have:=b6.lt;simp;omega) (fun e=>by have:=e6 E e.symm;omega)).trans (b6.alloc _)))
      have bw:Below w7.heap.size w7 w8:=zab br.drew b3
      have ev:=(zdy I).stk (cd.below bw) (fun b hb e=>by have:=lst b hb;omega)
      have ek:=X.out _ _ (H.out _ _ c9 bw) ((zdy I).weak (fun b e=>.inr e))
      have f0:=zfp (bh.tb bw) I
      go_wp2
      go_meet
      refine⟨by rw[ew.out],h9,ev,ek,f0,?_⟩
      rw[e2,List.length_append,List.flatMap_append,List.flatMap_cons,List.flatMap_nil,List.append_nil]
      exact R
    case rest=>
     obtain⟨rfl,h7,cd,c9,bq,D⟩:=hcut
     obtain⟨V7,rfl⟩:∃ V:World,V=wc:=⟨_,rfl⟩
     have ep:N.length<=2:=by
      rw[U.out,List.length_append]
      have:(yhp n tk).length<=1:=by unfold yhp;split<;>simp
      omega
     clear h6 bc b7 bg C B e6 e5
     obtain⟨fl,fk,rfl,_,_,_⟩:=RdS.zew D
     have cu:=bq.size
     have fi:=h7.lt
     have y8:=ce (.iface T x) (h7.cell 8)
     have eb:=hd' (c4.out _ c9)
     have bi:=hd' (fun Y (hY:Below V7.heap.size V7 Y)=>zbn (s:=⟨b0,sc,sm⟩) (k:=⟨n,kf,⟨ok,oa,on⟩,kj,L||gv,ks⟩) (i:=false) (jv:= .iface T x) er (zb1 tk) (h7.below hY) (cd.below hY) e7)
     dsimp only[zat,Ev.val,Ev.cells,zaf]at bi
     have cp:∀ b,w.heap.size<=b->¬ (b=q\/foot sp sl b):=fun b hb e=>by rcases e with rfl|e;omega;have:=lst b e;omega
     go_wp2_with (first|(go_at_call 114;(with_reducible refine(bi.out _ p).mono ?_);rintro r w8 ⟨rfl,h8,eu,ck⟩;have z:=zkk (zav D p) ck cp;have cv:w.heap.size<=w8.heap.size:=(Nat.le_trans cu (Nat.le_trans p.size ck.size)))|(refine zay rfl (.tmp 64) (.tmp 73) 63 rfl w.heap.size 66 i0 _ 8 64 Tryz.underlying63 cb cf cg ch rfl (by omega) _ N.length _ rfl (zav z (br.alloc lr _)) _ 1 (zaf n ⟨ok,oa,on⟩ (zb1 tk) er).cells.toList rfl (evRd (zaf n ⟨ok,oa,on⟩ (zb1 tk) er) _) (zfo _) (by simp only[maxLen];omega) (by omega) (by simp;omega) ?_;intro v9 w9 R y cq;have I:=zaw ((Below.refl w.heap.size w8).alloc cv (.cells (zaf n ⟨ok,oa,on⟩ (zb1 tk) er).cells 66)) (zav z (br.alloc lr _)) (by simp;omega) y)|((with_reducible refine eb.out.mono ?_);rintro r w7 ⟨rfl,p⟩))
     go_returns
     have bh:=(bq.tb p).trans ck (fun _ _ e=>e)
     refine⟨⟨_,rfl,?_⟩,h8.belB I cj,(zdy I).stk eu (fun b hb e=>by rcases hb with rfl|hb;have:=lst b (.inl rfl);omega;cases hb),zfp bh I⟩
     rw[<-List.append_assoc,<- U.out,List.length_append,List.flatMap_append,List.flatMap_cons,List.flatMap_nil,List.append_nil]
     exact R
end

section

attribute [local go_sem] zat

open Go.RowKit

def JbO (F:Nat->Prop) (w:World) (v:Value) (s:Sh) (cl:Int):Jb->Prop
 | .mal r c=> ∃ q,v= .iface 229 (.pointer (some ⟨q,0,.none⟩))/\MalO F w q s cl r c
 | .fre f=> ∃ q,v= .iface 238 (.agg #[some q])/\FeO F w q s f
 | .aga t=> ∃ q,v= .iface 242 (.agg #[some q])/\RrO F w q s t
 | .hei a=> ∃ q,v= .iface 246 (.agg #[some q])/\AdO F w q s a
theorem JbO.only{F G:Nat->Prop}{w w':World}{v:Value}{s:Sh}{cl:Int}{j:Jb}(h:JbO F w v s cl j)(b:Only G w w')(hd:∀ k,F k->¬ G k):JbO F w' v s cl j:=by
 cases j with
 |mal r c=>obtain⟨q,e,h⟩:=h;exact⟨q,e,h.only b hd⟩
 |fre f=>obtain⟨q,e,h⟩:=h;exact⟨q,e,h.only b hd⟩
 |aga t=>obtain⟨q,e,h⟩:=h;exact⟨q,e,h.only b hd⟩
 |hei a=>obtain⟨q,e,h⟩:=h;exact⟨q,e,h.only b hd⟩
theorem JbO.below{F:Nat->Prop}{w w':World}{v:Value}{s:Sh}{cl:Int}{j:Jb}(h:JbO F w v s cl j)(hb:Below w.heap.size w w'):JbO F w' v s cl j:=h.only (Only.of_below (F:=fun _=>False) hb) (fun _ _ e=>e)
theorem yad{s:Sh}{cl:Int}{b:Blk}(h:b.fits s cl=true)(m:s.p<=64)(j:b.large=false->b.pages=0):(0<=b.page/\b.page<=64)/\(b.large=false->0<=b.slot/\b.slot<=16)/\(0<=b.pages/\b.pages<=64):=by
 have i:=zdi.1 h;refine⟨by omega,fun f=>?_,?_⟩
 ·have l:=i.2.2.2.2 f;have:=zb4 (by omega:0<zah b.k);omega
 cases f:b.large
 ·rw[j f];omega
 have:=i.2.2.2.1 f;omega
theorem zrh{t:Rs}{b:Blk}(f:t.got=some b):b.large=false->b.pages=0:=by
 intro i;obtain⟨k,pg,sk,rn⟩:=t;rcases sk with _|x
 ·rcases rn with _|y
  ·cases f
  unfold Rs.got at f;dsimp only at f;split at f
  ·injection f with f;subst f;cases i
  cases f
 unfold Rs.got at f;dsimp only at f;split at f
 ·injection f with f;subst f;rfl
 cases f
theorem z3z{s:Sh}{cl:Int}{j:Jb}{b:Blk}(h:jbIs s cl j)(n:mayB s.p s.c s.m=true)(hc:0<=cl/\cl<s.c)(l:j.took=some b):b.fits s cl=true/\(b.large=false->b.pages=0):=by
 cases j with
 |mal r c=>
  have i:(if zck c=true then r.got else none)=some b:=l;split at i
  ·exact⟨(zlb h.1 n hc i).1,zrh i⟩
  cases i
 |fre f=>cases l;|aga t=>
  have i:(if t.done=true/\t.err=0 then(match t.res with|some x=>x.got|none=>none) else none)=some b:=l;split at i
  ·rcases hr:t.res with _|r
   ·rw[hr]at i;cases i
   rw[hr]at i;exact⟨(zlb (h.res r hr) n hc i).1,zrh i⟩
  cases i
 |hei a=>cases l
theorem z6y{q sp:Nat}{G:Nat->Prop}{s:Sh}{k:Kl}{jv sl:Value}{most:Int}{fs:List Fr}{j:Jb}{w:World}(h:zaa w q (zat s k false jv (.pointer (some ⟨sp,0,.none⟩))) 178)(hs:SK 0 w sp sl most fs)(C:¬ foot sp sl q)(n:JbO G w jv s k.c j)(N:∀ b,G b->b≠q/\¬ foot sp sl b)(F:∀ b,G b->b<w.heap.size)
  (H:jbIs s k.c j) (I:mayB s.p s.c s.m=true) (hc:0<=k.c/\k.c<s.c):
  Calls Tryz.prog 146 #[some q] w fun r w'=>zbp q sp s {k with told:=k.told||j.gave} j.done jv sl most fs (k.tells j) w w' r:=by
 have hb:=zar.1 I;have B:=fun b L=>yad (z3z H I hc (b:=b) L).1 (by omega) (z3z H I hc L).2;have z:∀ Y o,JbO G Y jv s k.c j->Only (fun b=>b=q\/w.heap.size<=b) Y o->JbO G o jv s k.c j:=fun Y o y O=>y.only O fun b l e=>by
  rcases e with e|e
  ·exact(N b l).1 e
  have:=F b l;omega
 have M:k.tells j=yhk k.c k.op.a j.gave k.told++if j.done=true then yhp k.c j.took++[zaf k.c k.op (zb1 j.took) j.err] else []:=by unfold Kl.tells yhk yhp;cases j.gave<;>cases j.done<;>cases k.told<;>cases j.took<;>simp
 rw[M];cases j with
 |mal r c=>
  obtain⟨q1,rfl,n⟩:=n
  exact yhr (J:=fun Y=>MalO G Y q1 s k.c r c) B h hs C n (fun Y o y l=>by obtain⟨q2,e,D⟩:=z Y o ⟨q1,rfl,y⟩ l;cases e;exact D)
   (fun _=>by kernel_rfl) (fun _=>by kernel_rfl) (fun _=>by kernel_rfl) (fun _=>by kernel_rfl) (fun _=>by kernel_rfl) (fun _=>by kernel_rfl) (fun _=>by kernel_rfl) (fun _=>by kernel_rfl)
   (fun Y i=>zrs i) (fun Y i=>zv7 i) (fun Y i=>zno i) (fun Y i=>zm2 i)
 |fre f=>
  obtain⟨q1,rfl,n⟩:=n
  exact yhr (J:=fun Y=>FeO G Y q1 s f) B h hs C n (fun Y o y l=>by obtain⟨q2,e,D⟩:=z Y o ⟨q1,rfl,y⟩ l;cases e;exact D)
   (fun _=>by kernel_rfl) (fun _=>by kernel_rfl) (fun _=>by kernel_rfl) (fun _=>by kernel_rfl) (fun _=>by kernel_rfl) (fun _=>by kernel_rfl) (fun _=>by kernel_rfl) (fun _=>by kernel_rfl)
   (fun Y i=>zm8 i) (fun Y i=>zqy i) (fun Y i=>zgh i) (fun Y i=>zf9 i)
 |aga t=>
  obtain⟨q1,rfl,n⟩:=n;have E:t.done=true->t.err=0->∃ r,t.res=some r:=fun y l=>by obtain⟨r,b,f,e,_⟩:=H.fin y l;exact⟨r,e⟩
  exact yhr (J:=fun Y=>RrO G Y q1 s t) B h hs C n (fun Y o y l=>by obtain⟨q2,e,D⟩:=z Y o ⟨q1,rfl,y⟩ l;cases e;exact D)
   (fun _=>by kernel_rfl) (fun _=>by kernel_rfl) (fun _=>by kernel_rfl) (fun _=>by kernel_rfl) (fun _=>by kernel_rfl) (fun _=>by kernel_rfl) (fun _=>by kernel_rfl) (fun _=>by kernel_rfl)
   (fun Y i=>zgc E i) (fun Y i=>zii i) (fun Y i=>zd8 i) (fun Y i=>zd5 i)
 |hei a=>
  obtain⟨q1,rfl,n⟩:=n
  exact yhr (J:=fun Y=>AdO G Y q1 s a) B h hs C n (fun Y o y l=>by obtain⟨q2,e,D⟩:=z Y o ⟨q1,rfl,y⟩ l;cases e;exact D)
   (fun _=>by kernel_rfl) (fun _=>by kernel_rfl) (fun _=>by kernel_rfl) (fun _=>by kernel_rfl) (fun _=>by kernel_rfl) (fun _=>by kernel_rfl) (fun _=>by kernel_rfl) (fun _=>by kernel_rfl)
   (fun Y i=>z0p i) (fun Y i=>z8a i) (fun Y i=>zqz i) (fun Y i=>zti i)
end

end Go.Proofs.YtkbddndcegpllaaGreat
