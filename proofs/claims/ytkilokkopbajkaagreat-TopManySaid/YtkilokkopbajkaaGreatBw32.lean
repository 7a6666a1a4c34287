/- Lemmas for the claim. -/
import Derived.Test.YtkilokkopbajkaaGreatBw26

import Derived.Test.YtkilokkopbajkaaGreatBw29

import Derived.Test.YtkilokkopbajkaaGreatBw31

set_option linter.all false
set_option maxHeartbeats 4000000
set_option maxRecDepth 100000
namespace Go.Proofs.YtkilokkopbajkaaGreat

attribute [local go_sem] RA DA GG

section

open Go.RowKit

attribute [local go_sem ↓] Go.wp_at_zero Go.wp_at_succ

def PB (s:Sh) (k:Kl) (idle:Bool) (jv sv:Value):Array Value:= #[s.p,s.c,s.m,k.c,k.first,k.op.k,k.op.a,k.op.n,jv,idle,k.told,sv,k.steps]
attribute [local go_sem] PB

theorem YT{q sp:Nat}{s:Sh}{k:Kl}{i:Bool}{jv sl:Value}{most:Int}{fs:List Fr}(x at':Int){w:World}(h:aA w q (PB s k i jv (.pointer (some ⟨sp,0,.none⟩))) 161)(hs:SK 0 w sp sl most fs)(S:¬ foot sp sl q):
  Calls Tryz.prog 97 #[some q,x,at'] w fun r w'=>r= .returned (OA k.c k.op at' x).val/\aA w' q (PB s k true .nilIface (.pointer (some ⟨sp,0,.none⟩))) 161/\SK 0 w' sp (.slice none 0 0) most []/\Only (fun b=>b=q\/foot sp sl b) w w':=by
 unfold Ev.val Ev.cells OA;dsimp only;obtain⟨b2,sc,sm⟩:=s;obtain⟨n,kf,⟨ok,oa,on⟩,kj,kt,ks⟩:=k;dsimp only[PB]at h ⊢;have B:=(Below.refl w.heap.size w).alloc lr (.cells #[.int .i64 0,.int .i64 0,.int .i64 0,.int .i64 0,.int .i64 0,.int .i64 0,.int .i64 0,.int .i64 0] 62);have hE:aA (w.alloc (.cells #[.int .i64 0,.int .i64 0,.int .i64 0,.int .i64 0,.int .i64 0,.int .i64 0,.int .i64 0,.int .i64 0] 62)) w.heap.size #[.int .i64 0,.int .i64 0,.int .i64 0,.int .i64 0,.int .i64 0,.int .i64 0,.int .i64 0,.int .i64 0] 62:=jA _ _;have lq:q<w.heap.size:=h.lt;go_in;go_upto_region 1 with fail;have M:=h.below B;have b0:=hs.below B;generalize w.alloc (.cells #[.int .i64 0,.int .i64 0,.int .i64 0,.int .i64 0,.int .i64 0,.int .i64 0,.int .i64 0,.int .i64 0] 62)=X at *;obtain⟨E,bi,D⟩:=hidv w.heap.size;rw[<-D]at hE ⊢;have l:w.heap.size<=E:=by omega
 have j:q≠E:=by omega
 have J:∀ b,foot sp sl b->b≠E:=fun b hb=>by
  rcases hb with rfl|hb
  ·have:=hs.lt;omega
  have:=hs.lF b hb;omega
 have b1:sp≠E:=J sp (.inl rfl);clear D;have lX:q<X.heap.size:=M.lt;have fX:=GA M;have b3:=M.cell;go_upto_region 2 with fail;have m:=(M.set 9 (.bool true)).set 8 .nilIface;have H:∀ b,foot sp sl b->b≠q:=fun b hb e=>S (e ▸ hb);have V:SK 0 ((X.setCell ⟨q,9,.none⟩ (.bool true)).setCell ⟨q,8,.none⟩ .nilIface) sp sl most fs:=b0.blocks fun b hb=>by rw[Below.heap_setCell _ ⟨q,8,.none⟩ _ b (H b hb),Below.heap_setCell _ ⟨q,9,.none⟩ _ b (H b hb)]
 have L:=(hE.other (fun e=>j e.symm) 9 (.bool true)).other (fun e=>j e.symm) 8 .nilIface;have O:Only (fun b=>b=q\/foot sp sl b) w ((X.setCell ⟨q,9,.none⟩ (.bool true)).setCell ⟨q,8,.none⟩ .nilIface):=Only.setCell (F:=fun b=>b=q\/foot sp sl b) (Only.setCell (F:=fun b=>b=q\/foot sp sl b) (Only.of_below B) (.inl (.inl rfl)) _) (.inl (.inl rfl)) _;generalize (X.setCell ⟨q,9,.none⟩ (.bool true)).setCell ⟨q,8,.none⟩ .nilIface=Y at *;clear b3 lX fX M b0 hs B;replace m:=m.cast (cs':= #[b2,sc,sm,n,kf,ok,oa,on,.nilIface,.bool true,kt,some sp,ks]) rfl;have lY:q<Y.heap.size:=m.lt;have b4:=m.cell;have N:=hd' (zq6 V);go_upto_region 3 with(go_at_call 127;(with_reducible refine N.out.mono ?_);rintro r w1 ⟨rfl,C,T⟩);have y:=m.only C S;have I:=L.only C (fun hb=>J E hb rfl);have R:=O.trans C (fun b _ hb=>.inr hb);clear lY b4 N m L O C V J;have bg:q<w1.heap.size:=y.lt;have bf:E<w1.heap.size:=I.lt;have b5:=y.cell;refine wret 11 ?_;repeat (go_big_quiet_step (fail))
 refine wqn fun Z z=>?_;have b6:=y.below z;have o:=I.below z;have bc:=T.below z;have b9:=R.trans (Only.of_below (F:=fun _=>False) z) (fun _ _ hb=>hb.elim);clear bg bf b5 y I T R;have lE:E<Z.heap.size:=o.lt;have fE:=GA o;have bh:=o.cell;go_wp2_with fail;have hF:aA ((((((((Z.setCell ⟨E,0,.none⟩ (.int .i64 5)).setCell ⟨E,1,.none⟩ (.int .i64 n)).setCell ⟨E,2,.none⟩ (.int .i64 ok)).setCell ⟨E,3,.none⟩ (.int .i64 oa)).setCell ⟨E,4,.none⟩ (.int .i64 on)).setCell ⟨E,5,.none⟩ (.int .i64 at')).setCell ⟨E,6,.none⟩ (.int .i64 0)).setCell ⟨E,7,.none⟩ (.int .i64 x)) E #[.int .i64 5,n,ok,oa,on,at',.int .i64 0,x] 62:=((((((((o.set 0 (.int .i64 5)).set 1 (.int .i64 n)).set 2 (.int .i64 ok)).set 3 (.int .i64 oa)).set 4 (.int .i64 on)).set 5 (.int .i64 at')).set 6 (.int .i64 0)).set 7 (.int .i64 x));have ba:aA ((((((((Z.setCell ⟨E,0,.none⟩ (.int .i64 5)).setCell ⟨E,1,.none⟩ (.int .i64 n)).setCell ⟨E,2,.none⟩ (.int .i64 ok)).setCell ⟨E,3,.none⟩ (.int .i64 oa)).setCell ⟨E,4,.none⟩ (.int .i64 on)).setCell ⟨E,5,.none⟩ (.int .i64 at')).setCell ⟨E,6,.none⟩ (.int .i64 0)).setCell ⟨E,7,.none⟩ (.int .i64 x)) q #[b2,sc,sm,n,kf,ok,oa,on,.nilIface,.bool true,kt,some sp,ks] 161:=((((((((b6.other j 0 (.int .i64 5)).other j 1 (.int .i64 n)).other j 2 (.int .i64 ok)).other j 3 (.int .i64 oa)).other j 4 (.int .i64 on)).other j 5 (.int .i64 at')).other j 6 (.int .i64 0)).other j 7 (.int .i64 x));have b8:Only (fun b=>b=q\/foot sp sl b) w ((((((((Z.setCell ⟨E,0,.none⟩ (.int .i64 5)).setCell ⟨E,1,.none⟩ (.int .i64 n)).setCell ⟨E,2,.none⟩ (.int .i64 ok)).setCell ⟨E,3,.none⟩ (.int .i64 oa)).setCell ⟨E,4,.none⟩ (.int .i64 on)).setCell ⟨E,5,.none⟩ (.int .i64 at')).setCell ⟨E,6,.none⟩ (.int .i64 0)).setCell ⟨E,7,.none⟩ (.int .i64 x)):=((((((((b9.setCell (p:=⟨E,0,.none⟩) (.inr l) (.int .i64 5)).setCell (p:=⟨E,1,.none⟩) (.inr l) (.int .i64 n)).setCell (p:=⟨E,2,.none⟩) (.inr l) (.int .i64 ok)).setCell (p:=⟨E,3,.none⟩) (.inr l) (.int .i64 oa)).setCell (p:=⟨E,4,.none⟩) (.inr l) (.int .i64 on)).setCell (p:=⟨E,5,.none⟩) (.inr l) (.int .i64 at')).setCell (p:=⟨E,6,.none⟩) (.inr l) (.int .i64 0)).setCell (p:=⟨E,7,.none⟩) (.inr l) (.int .i64 x));have bb:SK 0 ((((((((Z.setCell ⟨E,0,.none⟩ (.int .i64 5)).setCell ⟨E,1,.none⟩ (.int .i64 n)).setCell ⟨E,2,.none⟩ (.int .i64 ok)).setCell ⟨E,3,.none⟩ (.int .i64 oa)).setCell ⟨E,4,.none⟩ (.int .i64 on)).setCell ⟨E,5,.none⟩ (.int .i64 at')).setCell ⟨E,6,.none⟩ (.int .i64 0)).setCell ⟨E,7,.none⟩ (.int .i64 x)) sp (.slice none 0 0) most []:=bc.blocks fun b hb=>by
  have b7:b≠E:=by
   rcases hb with rfl|hb
   ·exact b1
   cases hb
  simp only[Below.heap_setCell _ ⟨E,_,.none⟩ _ b b7]
 generalize (((((((Z.setCell ⟨E,0,.none⟩ (.int .i64 5)).setCell ⟨E,1,.none⟩ (.int .i64 n)).setCell ⟨E,2,.none⟩ (.int .i64 ok)).setCell ⟨E,3,.none⟩ (.int .i64 oa)).setCell ⟨E,4,.none⟩ (.int .i64 on)).setCell ⟨E,5,.none⟩ (.int .i64 at')).setCell ⟨E,6,.none⟩ (.int .i64 0)).setCell ⟨E,7,.none⟩ (.int .i64 x)=U at *;obtain⟨r0,r1,r2,r3,r4,r5,r6,r7⟩:=ci8 5 n ok oa on at' 0 x hF.cell;exact bodyPost_ret (v:= .agg #[.int .i64 5,n,ok,oa,on,at',.int .i64 0,x]) (by simp[results,Tryz.results97,go_sem,r0,r1,r2,r3,r4,r5,r6,r7]) rfl ⟨rfl,ba,bb,b8⟩
end

section

attribute [local go_sem] PB

open Go.RowKit

theorem VK:(Tryz.prog.info? 62).map (fun i=>(i.zero,i.size,i.bytes))=some (some (.agg #[.int .i64 0,.int .i64 0,.int .i64 0,.int .i64 0,.int .i64 0,.int .i64 0,.int .i64 0,.int .i64 0]),8,64):=by kernel_rfl
theorem JH(B:Nat)(w:World):w.ownsRow B 62 8 (.slice none 0 0) 0 []:=⟨by simp,.inl ⟨rfl,rfl⟩⟩
theorem XK(e:Ev):∀ u ∈ e.cells.toList,u.oneCell'=true:=by
 intro u hu;simp only[Ev.cells,List.mem_cons,List.not_mem_nil,or_false]at hu;rcases hu with rfl|rfl|rfl|rfl|rfl|rfl|rfl|rfl<;>rfl
theorem evRd(e:Ev)(X:World):RdS (X.alloc (.cells e.cells 62)) 8 (.slice (some ⟨X.heap.size,0,.none⟩) 1 1) 1 e.cells.toList:=RdS.new (jA _ _) rfl (by decide)
theorem gE{w w':World}{B:Nat}{E:TypeId}{size:Nat}{v:Value}{n:Nat}{xs:List Value}(h:w.ownsRow B E size v n xs)(hb:Below w.heap.size w w'):w'.ownsRow B E size v n xs:=
 bC h fun k b=>hb.block k (h.lt k b).2
theorem uU{w w':World}{B:Nat}{F:Nat->Prop}{E:TypeId}{size:Nat}{v:Value}{n:Nat}{xs:List Value}(h:w.ownsRow B E size v n xs)(j:Only F w w')(i:∀ b,B<=b->¬ F b):w'.ownsRow B E size v n xs:=
 bC h fun k f=>j.block k (h.lt k f).2 (i k (h.lt k f).1)
theorem aA.belB{B:Nat}{w w':World}{q:Nat}{cs:Array Value}{T:TypeId}(h:aA w q cs T)(hb:Below B w w')(b:q<B):aA w' q cs T:=(hb.block q b).trans h
theorem YK{F:Nat->Prop}{w X Y:World}(h:Only F w X)(hb:Below w.heap.size X Y):Only F w Y:=
 ⟨hb.os.trans h.os,hb.tape.trans h.tape,hb.output.trans h.output,Nat.le_trans h.size hb.size,fun k b f=>(hb.block k b).trans (h.block k b f)⟩
theorem nI{B:Nat}{w w':World}(hb:Below B w w'):Only (fun b=>B<=b) w w':=⟨hb.os,hb.tape,hb.output,hb.size,fun k _ f=>hb.block k (by omega)⟩
def AdO (F:Nat->Prop) (w:World) (q:Nat) (s:Sh) (a:Ad):Prop:=F q/\aA w q (DA s a) 252
theorem AdO.only{F G:Nat->Prop}{w w':World}{q:Nat}{s:Sh}{a:Ad}(h:AdO F w q s a)(b:Only G w w')(hd:∀ k,F k->¬ G k):AdO F w' q s a:=⟨h.1,h.2.only b (hd q h.1)⟩
theorem AdO.below{F:Nat->Prop}{w w':World}{q:Nat}{s:Sh}{a:Ad}(h:AdO F w q s a)(hb:Below w.heap.size w w'):AdO F w' q s a:=⟨h.1,h.2.below hb⟩
theorem FeO.below{F:Nat->Prop}{w w':World}{q:Nat}{s:Sh}{t:Fe}(h:FeO F w q s t)(hb:Below w.heap.size w w'):FeO F w' q s t:=h.only (Only.of_below (F:=fun _=>False) hb) (fun _ _ e=>e)
theorem MalO.below{F:Nat->Prop}{w w':World}{q:Nat}{s:Sh}{cl:Int}{r:Rs}{c:Option Cm}(h:MalO F w q s cl r c)(hb:Below w.heap.size w w'):MalO F w' q s cl r c:=h.only (Only.of_below (F:=fun _=>False) hb) (fun _ _ e=>e)
structure TK (q sp:Nat) (s:Sh) (k:Kl) (d:Bool) (jv sl:Value) (most:Int) (fs:List Fr) (es:List Ev) (w w':World) (r:Ending):Prop where
 ret:∃ v,r= .returned v/\w'.ownsRow w.heap.size 62 8 v es.length (es.flatMap fun e=> e.cells.toList)
 row:aA w' q (PB s k d (if d=true then .nilIface else jv) (.pointer (some ⟨sp,0,.none⟩))) 161
 stk:SK 0 w' sp (if d=true then .slice none 0 0 else sl) most (if d=true then [] else fs)
 only:Only (fun b=> b=q\/foot sp sl b) w w'
section

attribute [local go_sem] PB

variable {G:Nat->Prop} {Y:World} {q1:Nat} {s:Sh}

theorem zgh{f:Fe}(h:FeO G Y q1 s f):Calls Tryz.prog 242 #[.agg #[some q1]] Y fun e w'=>e= .returned (.bool f.gave)/\Below Y.heap.size Y w':=by
 obtain⟨_,q2,h3,_⟩:=h;exact zxu q1 _ f.gave Y h3.row rfl
theorem zf9{f:Fe}(h:FeO G Y q1 s f):Calls Tryz.prog 162 #[some q1] Y fun e w'=>e= .returned (.bool f.done)/\Below Y.heap.size Y w':=by
 obtain⟨_,q2,h3,_⟩:=h;exact(WO q1 _ f.done Y h3.row rfl).mono (fun e w' h=>⟨h.1,h.2 ▸ Below.refl _ _⟩)
theorem zm8{f:Fe}(_h:FeO G Y q1 s f):Calls Tryz.prog 243 #[.agg #[some q1]] Y fun e w'=>e= .returned (gotV none)/\Below Y.heap.size Y w':=zze _ Y
theorem zqy{f:Fe}(h:FeO G Y q1 s f):Calls Tryz.prog 241 #[.agg #[some q1]] Y fun e w'=>e= .returned (.int .i64 (Jb.fre f).err)/\Below Y.heap.size Y w':=by
 obtain⟨_,q2,h3,_⟩:=h;exact z2s q1 _ f.gave Y h3.row rfl
theorem zd8{t:Rr}(h:RrO G Y q1 s t):Calls Tryz.prog 248 #[.agg #[some q1]] Y fun e w'=>e= .returned (.bool (Jb.aga t).gave)/\Below Y.heap.size Y w':=zyz h
theorem zd5{t:Rr}(h:RrO G Y q1 s t):Calls Tryz.prog 244 #[some q1] Y fun e w'=>e= .returned (.bool t.done)/\Below Y.heap.size Y w':=by
 obtain⟨_,_,_,_,_,_,_,_,_,_,b,_⟩:=h;exact(zzc q1 _ t.done Y b rfl).mono (fun e w' h=>⟨h.1,h.2 ▸ Below.refl _ _⟩)
theorem zgc{t:Rr}(hd:t.done=true->t.err=0->∃ r,t.res=some r)(h:RrO G Y q1 s t):Calls Tryz.prog 249 #[.agg #[some q1]] Y fun e w'=>e= .returned (gotV (Jb.aga t).took)/\Below Y.heap.size Y w':=zzp h hd
theorem zii{t:Rr}(h:RrO G Y q1 s t):Calls Tryz.prog 247 #[.agg #[some q1]] Y fun e w'=>e= .returned (.int .i64 (Jb.aga t).err)/\Below Y.heap.size Y w':=by
 obtain⟨_,_,_,_,_,_,_,_,_,_,b,_⟩:=h;exact z1d q1 s t _ _ _ _ Y b
theorem zno{cl:Int}{r:Rs}{c:Option Cm}(_h:MalO G Y q1 s cl r c):Calls Tryz.prog 212 #[some q1] Y fun e w'=>e= .returned (.bool false)/\Below Y.heap.size Y w':=(ztz _ Y).mono (fun e w' h=>⟨h.1,h.2 ▸ Below.refl _ _⟩)
theorem zm2{cl:Int}{r:Rs}{c:Option Cm}(h:MalO G Y q1 s cl r c):Calls Tryz.prog 209 #[some q1] Y fun e w'=>e= .returned (.bool (Jb.mal r c).done)/\Below Y.heap.size Y w':=zvm h
theorem zrs{cl:Int}{r:Rs}{c:Option Cm}(h:MalO G Y q1 s cl r c):Calls Tryz.prog 213 #[some q1] Y fun e w'=>e= .returned (gotV (Jb.mal r c).took)/\Below Y.heap.size Y w':=zux h
theorem zv7{cl:Int}{r:Rs}{c:Option Cm}(h:MalO G Y q1 s cl r c):Calls Tryz.prog 211 #[some q1] Y fun e w'=>e= .returned (.int .i64 (Jb.mal r c).err)/\Below Y.heap.size Y w':=zy3 h
theorem zqz{a:Ad}(_h:AdO G Y q1 s a):Calls Tryz.prog 264 #[.agg #[some q1]] Y fun e w'=>e= .returned (.bool false)/\Below Y.heap.size Y w':=zy9 _ Y
theorem zti{a:Ad}(h:AdO G Y q1 s a):Calls Tryz.prog 253 #[some q1] Y fun e w'=>e= .returned (.bool a.done)/\Below Y.heap.size Y w':=(zxq q1 _ a.done Y h.2 rfl).mono (fun e w' h=>⟨h.1,h.2 ▸ Below.refl _ _⟩)
theorem z0p{a:Ad}(_h:AdO G Y q1 s a):Calls Tryz.prog 265 #[.agg #[some q1]] Y fun e w'=>e= .returned (gotV none)/\Below Y.heap.size Y w':=zx3 _ Y
theorem z8a{a:Ad}(h:AdO G Y q1 s a):Calls Tryz.prog 263 #[.agg #[some q1]] Y fun e w'=>e= .returned (.int .i64 a.err)/\Below Y.heap.size Y w':=zz3 q1 s a Y h.2
end

end

section

attribute [local go_sem] PB

open Go.RowKit

attribute [local go_sem ↓] Go.wp_at_zero Go.wp_at_succ

def EF (c a:Int) (g t:Bool):List Ev:=if g=true/\t=false then [pE c a] else []
def TG (c:Int):Option Blk->List Ev
 | some b=> [kE c b.at' b.len]
 | none=> []
theorem nK{q sp:Nat}{s:Sh}{k:Kl}{sl:Value}{most:Int}{fs:List Fr}{T:TypeId}{x:Value}{fg fd ft fe:FuncId}{rg rd rt re:Value}{er:Int}{dn:Bool}{tk:Option Blk}{J:World->Prop}{gv:Bool}{w:World}(hk:∀ b,tk=some b->(0<=b.page/\b.page<=64)/\(b.large=false->0<=b.slot/\b.slot<=16)/\(0<=b.pages/\b.pages<=64))(h:aA w q (PB s k false (.iface T x) (.pointer (some ⟨sp,0,.none⟩))) 161)(hs:SK 0 w sp sl most fs)(e7:¬ foot sp sl q)(hJ:J w)(X:∀ Y Y',J Y->Only (fun b=>b=q\/w.heap.size<=b) Y Y'->J Y')(m1:∀ W:World,(method (Tryz.prog.types.size+Made.depth) T x "allotment/client.gave").run Tryz.prog W= .ok (fg,rg) W) (m2:∀ W:World,(method (Tryz.prog.types.size+Made.depth) T x "Done").run Tryz.prog W= .ok (fd,rd) W)(f1:∀ W:World,(callFunc fg #[rg]).run Tryz.prog W= .ok (.enter fg #[rg]) W) (f2:∀ W:World,(callFunc fd #[rd]).run Tryz.prog W= .ok (.enter fd #[rd]) W)(m3:∀ W:World,(method (Tryz.prog.types.size+Made.depth) T x "allotment/client.took").run Tryz.prog W= .ok (ft,rt) W) (m4:∀ W:World,(method (Tryz.prog.types.size+Made.depth) T x "allotment/client.err").run Tryz.prog W= .ok (fe,re) W)(f3:∀ W:World,(callFunc ft #[rt]).run Tryz.prog W= .ok (.enter ft #[rt]) W) (f4:∀ W:World,(callFunc fe #[re]).run Tryz.prog W= .ok (.enter fe #[re]) W)(c3:∀ Y,J Y->Calls Tryz.prog ft #[rt] Y fun e w'=>e= .returned (gotV tk)/\Below Y.heap.size Y w') (c4:∀ Y,J Y->Calls Tryz.prog fe #[re] Y fun e w'=>e= .returned (.int .i64 er)/\Below Y.heap.size Y w')(c1:∀ Y,J Y->Calls Tryz.prog fg #[rg] Y fun e w'=>e= .returned (.bool gv)/\Below Y.heap.size Y w') (c2:∀ Y,J Y->Calls Tryz.prog fd #[rd] Y fun e w'=>e= .returned (.bool dn)/\Below Y.heap.size Y w'):
  Calls Tryz.prog 125 #[some q] w fun r w'=>TK q sp s {k with told:=k.told||gv} dn (.iface T x) sl most fs (EF k.c k.op.a gv k.told++if dn=true then TG k.c tk++[OA k.c k.op (sB tk) er] else []) w w' r:=by
 obtain⟨i0,cb,cf,cg,ch⟩:=info_parts VK;obtain⟨b0,sc,sm⟩:=s;obtain⟨n,kf,⟨ok,oa,on⟩,kj,L,ks⟩:=k;dsimp only[PB]at h ⊢;simp[go_sem]at m1 m2 m3 m4;replace c1:=hd' (c1 w hJ);replace c2:=hd' c2;replace c3:=hd' c3;replace c4:=hd' c4;have H:=hd' (fun Y Y' (hY:J Y) (hb:Below Y.heap.size Y Y')=>X Y Y' hY ((Only.of_below (F:=fun _=>False) hb).weak (fun _ e=>e.elim)));replace X:=hd' X;have cj:q<w.heap.size:=h.lt;have lst:∀ b,foot sp sl b->b<w.heap.size:=fun b hb=>by rcases hb with rfl|hb;exact hs.lt;exact(hs.lF b hb).2
 have lq:q<w.heap.size:=h.lt;have x8:=ce (.iface T x) (h.cell 8);have S:=ce (.bool L) (h.cell 10);go_in;go_upto_region 2 with fail;go_cut [18] (fun f5 M=>f5= .bool (gv && !L)/\aA M q #[b0,sc,sm,n,kf,ok,oa,on,.iface T x,.bool false,L,some sp,ks] 161/\SK 0 M sp sl most fs/\J M/\Below w.heap.size w M);case first=>
  cases gv<;>cases L
  ·go_wp2_with ((with_reducible refine c1.out.mono ?_);rintro r w1 ⟨rfl,j⟩;have z8:=iA j _ _ _ x8;have cl:=iA j _ _ _ S);go_meet;exact⟨rfl,h.below j,hs.below j,H _ _ hJ j,j⟩
  ·go_wp2_with ((with_reducible refine c1.out.mono ?_);rintro r w1 ⟨rfl,j⟩;have z8:=iA j _ _ _ x8;have cl:=iA j _ _ _ S);go_meet;exact⟨rfl,h.below j,hs.below j,H _ _ hJ j,j⟩
  ·go_wp2_with ((with_reducible refine c1.out.mono ?_);rintro r w1 ⟨rfl,j⟩;have z8:=iA j _ _ _ x8;have cl:=iA j _ _ _ S);go_meet;exact⟨rfl,h.below j,hs.below j,H _ _ hJ j,j⟩
  go_wp2_with ((with_reducible refine c1.out.mono ?_);rintro r w1 ⟨rfl,j⟩;have z8:=iA j _ _ _ x8;have cl:=iA j _ _ _ S);go_meet;exact⟨rfl,h.below j,hs.below j,H _ _ hJ j,j⟩
 case rest=>
  obtain⟨rfl,h1,b4,b2,j⟩:=hcut;obtain⟨V,rfl⟩:∃ V:World,V=wc:=⟨_,rfl⟩;have b5:Only (fun b=>b=q\/foot sp sl b) w V:=Only.of_below j;clear h hs hJ x8 S lq c1;have fh:=h1.lt;have ed:=GA h1;have S:=ce (.bool L) (h1.cell 10);go_upto_if 18 with fail;go_cut [3] (fun v3 M=>aA M q #[b0,sc,sm,n,kf,ok,oa,on,.iface T x,.bool false,.bool (L||gv),some sp,ks] 161/\SK 0 M sp sl most fs/\J M/\Only (fun b=>b=q\/foot sp sl b) w M/\M.ownsRow w.heap.size 62 8 v3 (EF n oa gv L).length ((EF n oa gv L).flatMap fun e=>e.cells.toList));case first=>
   cases gv<;>cases L
   ·simp only[Bool.false_and,Bool.true_and,Bool.not_true,Bool.not_false];go_wp2;go_meet;exact⟨h1,b4,b2,b5,JH _ _⟩
   ·simp only[Bool.false_and,Bool.true_and,Bool.not_true,Bool.not_false];go_wp2;go_meet;exact⟨h1,b4,b2,b5,JH _ _⟩
   ·simp only[Bool.false_and,Bool.true_and,Bool.not_true,Bool.not_false];go_upto_region 4 with fail;have h2:=h1.set 10 (.bool true);have oq:Only (fun b=>b=q) V (V.setCell ⟨q,10,.none⟩ (.bool true)):=Only.setCell (F:=fun b=>b=q) (Only.refl _ _) (.inl rfl) _;have es:=oq.stk b4 (fun b hb e=>e7 (e ▸ hb));have ej:=X _ _ b2 (oq.weak (fun b e=>.inl e));have e9:=b5.trans oq (fun b _ hb=>.inl hb);replace h2:=h2.cast (cs':= #[b0,sc,sm,n,kf,ok,oa,on,.iface T x,.bool false,.bool true,some sp,ks]) rfl;generalize V.setCell ⟨q,10,.none⟩ (.bool true)=w2 at *;clear h1 b4 b2 b5 S oq ed;have em:=e9.size;have lq:q<w2.heap.size:=h2.lt;have d3:=ci n (h2.cell 3);have d6:=ci oa (h2.cell 6);go_wp2_with fail
    go_region_law
     (first|(refine DG (by rfl) (.tmp 22) (.tmp 33) 59 (by rfl) w.heap.size 62 i0 _ 8 64 Tryz.underlying59 cb cf cg ch rfl (by omega) _ 0 [] (by rfl) (JH _ _) _ 1 (pE n oa).cells.toList (by rfl) (RdS.drew (evRd (pE n oa) w2)) (XK _) (by simp only[maxLen];omega) (by omega) (by simp;omega) ?_;intro v3 w3 l ba f9;have b8:=iE ((Below.refl w.heap.size w2).alloc em (.cells (pE n oa).cells 62)).drew (JH w.heap.size _) (by simp;omega) ba))
    all_goals rw[Nat.zero_add,List.nil_append]at l;go_wp2;go_meet;exact⟨h2.belB b8 cj,(nI b8).stk es (fun b hb e=>by have:=lst b hb;omega),X _ _ ej ((nI b8).weak (fun b e=>.inr e)),YK e9 b8,l⟩
   simp only[Bool.false_and,Bool.true_and,Bool.not_true,Bool.not_false];go_wp2;go_meet;exact⟨h1,b4,b2,b5,JH _ _⟩
  case rest=>
   obtain⟨h3,cc,c7,bf,l⟩:=hcut
   have cs:=bf.size
   have ey:=h3.lt
   have y8:=ce (.iface T x) (h3.cell 8)
   have bz:=hd' (c2 _ c7)
   obtain⟨V3,rfl⟩:∃ V:World,V=wc:=⟨_,rfl⟩
   cases dn with
   |false=>
    go_wp2_with ((with_reducible refine bz.out.mono ?_);rintro r w4 ⟨rfl,m⟩;have y9:=iA m _ _ _ y8)
    go_returns
    refine⟨⟨_,rfl,?_⟩,h3.below m,cc.below m,bf.tb m⟩
    have:=gE l m
    simpa using this
   |true=>
    have e5:(EF n oa gv L).length<=1:=by unfold EF;split<;>simp
    obtain⟨f7,f6,rfl,_,_,_⟩:=RdS.GC l
    go_upto_region 8 with((with_reducible refine bz.out.mono ?_);rintro r w4 ⟨rfl,m⟩;have y9:=iA m _ _ _ y8)
    have h4:=h3.below m
    have e8:=cc.below m
    have c8:=H _ _ c7 m
    have ea:=bf.tb m
    have O:=gE l m
    clear h3 cc c7 bf l cs ey y8 bz y9 c2 m
    have ez:q<w4.heap.size:=h4.lt
    have y8:=ce (.iface T x) (h4.cell 8)
    obtain⟨bl,bp,bs,o,bn,bm,cr⟩:∃ bl bp bs o bn,gotV tk= .tuple #[.agg #[.bool bl,.int .i64 bp,.int .i64 bs,.int .i64 o,.int .i64 bn],tk.isSome]/\∀ b,tk=some b->b=⟨bl,bp,bs,o,bn⟩:=by
     cases tk with
     |none=>exact⟨_,_,_,_,_,rfl,fun b e=>by cases e⟩
     |some b=>exact⟨_,_,_,_,_,rfl,fun b' e=>by injection e with e;subst e;rfl⟩
    have b1:=c3 w4 c8
    rw[bm]at b1
    replace b1:=hd' b1
    clear bm
    go_upto_if 50 with((with_reducible refine b1.out.mono ?_);rintro r w5 ⟨rfl,b9⟩)
    have Z:=b9.trans ((Below.refl w4.heap.size w5).alloc b9.size (.cells #[bl,bp,bs,o,bn] 234))
    have B:aA (w5.alloc (.cells #[bl,bp,bs,o,bn] 234)) w5.heap.size #[bl,bp,bs,o,bn] 234:=jA _ _
    generalize w5.alloc (.cells #[bl,bp,bs,o,bn] 234)=w6 at *
    obtain⟨E,ei,bj⟩:=hidv w5.heap.size
    rw[<-bj]at B ⊢
    clear bj
    have f8:w4.heap.size<=E:=by have:=b9.size;have:=ei.out;omega
    have e6:∀ b,Value.ownBlock (.slice f7 (EF n oa gv L).length f6)=some b->b<w4.heap.size:=fun b hb=>(O.lt b hb).2
    have h6:=h4.below Z
    have bc:=e8.below Z
    have b7:=H _ _ c8 Z
    have bg:=ea.tb Z
    have C:=gE O Z
    clear h4 e8 c8 ea O ez y8 b1 c3 b9 Z
    obtain⟨N,U⟩:∃ N,Hid (N=EF n oa gv L++TG n tk):=⟨_,hd' rfl⟩
    go_cut [3,4] (fun v3 v4 M=>v4= .int .i64 (sB tk)/\aA M q #[b0,sc,sm,n,kf,ok,oa,on,.iface T x,.bool false,.bool (L||gv),some sp,ks] 161/\SK 0 M sp sl most fs/\J M/\Only (fun b=>b=q\/foot sp sl b) w M/\M.ownsRow w.heap.size 62 8 v3 N.length (N.flatMap fun e=>e.cells.toList))
    case first=>
     cases tk with
     |none=>
      have e2:N=EF n oa gv L:=by rw[U];simp[TG]
      simp only[Option.isSome_none]
      go_wp2
      go_meet
      exact⟨rfl,h6,bc,b7,bg,by rw[e2];exact C⟩
     |some bk=>
      have e2:=U.out
      simp only[TG,sB]at e2 ⊢
      obtain⟨cx,cy,cz⟩:=hk bk rfl
      have c5:=hd' (fun W=>zjy bk W cx cy)
      have c6:=hd' (fun W=>zih bk W cz)
      clear hk cx cy cz
      have ew:Hid (sB (some bk)=bk.at'):=hd' rfl
      generalize bk.at'=bv at *
      generalize bk.len=bx at *
      have el:=cr bk rfl
      subst el
      dsimp only at c5 c6
      simp only[Option.isSome_some]
      have e0:=ce (.bool bl) (B.cell 0)
      have e1:=ci bp (B.cell 1)
      have ec:=ci bs (B.cell 2)
      have e3:=ci o (B.cell 3)
      have e4:=ci bn (B.cell 4)
      have ex:=B.lt
      have cm:=hd' (c5 w6)
      go_upto_region 11 with(go_at_call 146;(with_reducible refine cm.out.mono ?_);rintro r w7 ⟨rfl,p⟩)
      have h7:=h6.below p
      have cd:=bc.below p
      have c9:=H _ _ b7 p
      have bh:=bg.tb p
      have D:=gE C p
      have eg:=B.below p
      clear h6 bc b7 bg C B e0 e1 ec e3 e4 ex cm c5 p
      have fa:=bh.size
      have ca:=h7.drew
      have bu:=eg.drew
      have fj:q<w7.drew.heap.size:=ca.lt
      have fc:E<w7.drew.heap.size:=bu.lt
      have hS:=hd' (fun (Y:World) (hr:aA Y q #[b0,sc,sm,n,kf,ok,oa,on,.iface T x,.bool false,.bool (L||gv),some sp,ks] 161) (hB:aA Y E #[bl,bp,bs,o,bn] 234)=>(⟨hr.cell 3,hB.cell 0,hB.cell 1,hB.cell 2,hB.cell 3,hB.cell 4⟩:Y.cell? ⟨q,3,.none⟩=some (.int .i64 n)/\Y.cell? ⟨E,0,.none⟩=some (.bool bl)/\Y.cell? ⟨E,1,.none⟩=some (.int .i64 bp)/\Y.cell? ⟨E,2,.none⟩=some (.int .i64 bs)/\Y.cell? ⟨E,3,.none⟩=some (.int .i64 o)/\Y.cell? ⟨E,4,.none⟩=some (.int .i64 bn)))
      have ef:=hd' (fun W=>c6 W)
      clear c6
      have bb:=gE D br.drew
      go_region_held3 (fun Y=>Y.cell? ⟨q,3,.none⟩=some (.int .i64 n)/\Y.cell? ⟨E,0,.none⟩=some (.bool bl)/\Y.cell? ⟨E,1,.none⟩=some (.int .i64 bp)/\Y.cell? ⟨E,2,.none⟩=some (.int .i64 bs)/\Y.cell? ⟨E,3,.none⟩=some (.int .i64 o)/\Y.cell? ⟨E,4,.none⟩=some (.int .i64 bn))
       (first|exact hS _ ca bu|exact hS _ h8 b6|exact hS _ (h8.alloc _) (b6.alloc _)|exact hS _ h9 eh)
       (first|(go_at_call 147;(with_reducible refine(ef _).mono ?_);rintro r w8 ⟨rfl,b3⟩;have h8:=ca.below b3;have b6:=bu.below b3;have fb:w7.heap.size<=w8.heap.size:=b3.size;have z:=gE bb b3)|(refine DG (by rfl) (.tmp 53) (.tmp 62) 59 (by rfl) w.heap.size 62 i0 _ 8 64 Tryz.underlying59 cb cf cg ch rfl (by omega) _ (EF n oa gv L).length _ (by rfl) (gE z (br.alloc lr _)) _ 1 (kE n bv bx).cells.toList (by rfl) (evRd (kE n bv bx) _) (XK _) (by simp only[maxLen];omega) (by omega) (by simp;omega) ?_;intro v9 w9 R y cq;have I:=iE ((Below.refl w.heap.size w8).alloc (by omega) (.cells (kE n bv bx).cells 62)) (gE z (br.alloc lr _)) (by simp;omega) y;have h9:=h8.belB I cj;have eh:aA w9 E #[bl,bp,bs,o,bn] 234:=(y.block E (by have:=b6.lt;simp;omega) (fun e=>by have:=e6 E e.symm;omega)).trans (b6.alloc _)))
      have bw:Below w7.heap.size w7 w8:=xA br.drew b3
      have ev:=(nI I).stk (cd.below bw) (fun b hb e=>by have:=lst b hb;omega)
      have ek:=X _ _ (H _ _ c9 bw) ((nI I).weak (fun b e=>.inr e))
      have f0:=YK (bh.tb bw) I
      go_wp2
      go_meet
      refine⟨by rw[ew],h9,ev,ek,f0,?_⟩
      rw[e2,List.length_append,List.flatMap_append,List.flatMap_cons,List.flatMap_nil,List.append_nil]
      exact R
    case rest=>
     obtain⟨rfl,h7,cd,c9,bq,D⟩:=hcut
     obtain⟨V7,rfl⟩:∃ V:World,V=wc:=⟨_,rfl⟩
     have ep:N.length<=2:=by
      rw[U,List.length_append]
      have:(TG n tk).length<=1:=by unfold TG;split<;>simp
      omega
     clear h6 bc b7 bg C B e6 e5
     obtain⟨fl,fk,rfl,_,_,_⟩:=RdS.GC D
     have cu:=bq.size
     have fi:=h7.lt
     have y8:=ce (.iface T x) (h7.cell 8)
     have eb:=hd' (c4 _ c9)
     have bi:=hd' (fun Y (hY:Below V7.heap.size V7 Y)=>YT (s:=⟨b0,sc,sm⟩) (k:=⟨n,kf,⟨ok,oa,on⟩,kj,L||gv,ks⟩) (i:=false) (jv:= .iface T x) er (sB tk) (h7.below hY) (cd.below hY) e7)
     dsimp only[PB,Ev.val,Ev.cells,OA]at bi
     have cp:∀ b,w.heap.size<=b->¬ (b=q\/foot sp sl b):=fun b hb e=>by rcases e with rfl|e;omega;have:=lst b e;omega
     go_wp2_with (first|(go_at_call 97;(with_reducible refine(bi _ p).mono ?_);rintro r w8 ⟨rfl,h8,eu,ck⟩;have z:=uU (gE D p) ck cp;have cv:w.heap.size<=w8.heap.size:=(Nat.le_trans cu (Nat.le_trans p.size ck.size)))|(refine cH rfl (.tmp 64) (.tmp 73) 59 rfl w.heap.size 62 i0 _ 8 64 Tryz.underlying59 cb cf cg ch rfl (by omega) _ N.length _ rfl (gE z (br.alloc lr _)) _ 1 (OA n ⟨ok,oa,on⟩ (sB tk) er).cells.toList rfl (evRd (OA n ⟨ok,oa,on⟩ (sB tk) er) _) (XK _) (by simp only[maxLen];omega) (by omega) (by simp;omega) ?_;intro v9 w9 R y cq;have I:=iE ((Below.refl w.heap.size w8).alloc cv (.cells (OA n ⟨ok,oa,on⟩ (sB tk) er).cells 62)) (gE z (br.alloc lr _)) (by simp;omega) y)|((with_reducible refine eb.out.mono ?_);rintro r w7 ⟨rfl,p⟩))
     go_returns
     have bh:=(bq.tb p).trans ck (fun _ _ e=>e)
     refine⟨⟨_,rfl,?_⟩,h8.belB I cj,(nI I).stk eu (fun b hb e=>by rcases hb with rfl|hb;have:=lst b (.inl rfl);omega;cases hb),YK bh I⟩
     rw[<-List.append_assoc,<- U,List.length_append,List.flatMap_append,List.flatMap_cons,List.flatMap_nil,List.append_nil]
     exact R
end

section

attribute [local go_sem] PB

open Go.RowKit

def JbO (F:Nat->Prop) (w:World) (v:Value) (s:Sh) (cl:Int):Jb->Prop
 | .mal r c=> ∃ q,v= .iface 203 (.pointer (some ⟨q,0,.none⟩))/\MalO F w q s cl r c
 | .fre f=> ∃ q,v= .iface 212 (.agg #[.pointer (some ⟨q,0,.none⟩)])/\FeO F w q s f
 | .aga t=> ∃ q,v= .iface 216 (.agg #[.pointer (some ⟨q,0,.none⟩)])/\RrO F w q s t
 | .hei a=> ∃ q,v= .iface 220 (.agg #[.pointer (some ⟨q,0,.none⟩)])/\AdO F w q s a
theorem JbO.only{F G:Nat->Prop}{w w':World}{v:Value}{s:Sh}{cl:Int}{j:Jb}(h:JbO F w v s cl j)(b:Only G w w')(hd:∀ k,F k->¬ G k):JbO F w' v s cl j:=by
 cases j with
 |mal r c=>obtain⟨q,e,h⟩:=h;exact⟨q,e,h.only b hd⟩
 |fre f=>obtain⟨q,e,h⟩:=h;exact⟨q,e,h.only b hd⟩
 |aga t=>obtain⟨q,e,h⟩:=h;exact⟨q,e,h.only b hd⟩
 |hei a=>obtain⟨q,e,h⟩:=h;exact⟨q,e,h.only b hd⟩
theorem JbO.below{F:Nat->Prop}{w w':World}{v:Value}{s:Sh}{cl:Int}{j:Jb}(h:JbO F w v s cl j)(hb:Below w.heap.size w w'):JbO F w' v s cl j:=h.only (Only.of_below (F:=fun _=>False) hb) (fun _ _ e=>e)
theorem VX{s:Sh}{cl:Int}{b:Blk}(h:b.fits s cl=true)(j:s.p<=64)(i:b.large=false->b.pages=0):(0<=b.page/\b.page<=64)/\(b.large=false->0<=b.slot/\b.slot<=16)/\(0<=b.pages/\b.pages<=64):=by
 have h1:=HE.1 h;refine⟨by omega,fun f=>?_,?_⟩
 ·have h2:=h1.2.2.2.2 f;have:=MD (by omega:0<mA b.k);omega
 cases f:b.large
 ·rw[i f];omega
 have:=h1.2.2.2.1 f;omega
theorem QV{t:Rs}{b:Blk}(f:t.got=some b):b.large=false->b.pages=0:=by
 intro i;obtain⟨k,pg,sk,rn⟩:=t;rcases sk with _|x
 ·rcases rn with _|y
  ·cases f
  unfold Rs.got at f;dsimp only at f;split at f
  ·injection f with f;subst f;cases i
  cases f
 unfold Rs.got at f;dsimp only at f;split at f
 ·injection f with f;subst f;rfl
 cases f
theorem uT{s:Sh}{cl:Int}{j:Jb}{b:Blk}(h:jbIs s cl j)(n:mayB s.p s.c s.m=true)(hc:0<=cl/\cl<s.c)(l:j.took=some b):b.fits s cl=true/\(b.large=false->b.pages=0):=by
 cases j with
 |mal r c=>
  have i:(if KC c=true then r.got else none)=some b:=l;split at i
  ·exact⟨(MG h.1 n hc i).1,QV i⟩
  cases i
 |fre f=>cases l;|aga t=>
  have i:(if t.done=true/\t.err=0 then(match t.res with|some x=>x.got|none=>none) else none)=some b:=l;split at i
  ·rcases hr:t.res with _|r
   ·rw[hr]at i;cases i
   rw[hr]at i;exact⟨(MG (h.res r hr) n hc i).1,QV i⟩
  cases i
 |hei a=>cases l
theorem z6y{q sp:Nat}{G:Nat->Prop}{s:Sh}{k:Kl}{jv sl:Value}{most:Int}{fs:List Fr}{j:Jb}{w:World}(h:aA w q (PB s k false jv (.pointer (some ⟨sp,0,.none⟩))) 161)(hs:SK 0 w sp sl most fs)(z:¬ foot sp sl q)(l:JbO G w jv s k.c j)(I:∀ b,G b->b≠q/\¬ foot sp sl b)(C:∀ b,G b->b<w.heap.size)(D:jbIs s k.c j) (E:mayB s.p s.c s.m=true) (hc:0<=k.c/\k.c<s.c):
  Calls Tryz.prog 125 #[some q] w fun r w'=>TK q sp s {k with told:=k.told||j.gave} j.done jv sl most fs (k.tells j) w w' r:=by
 have hb:=LA.1 E;have y:=fun b F=>VX (uT D E hc (b:=b) F).1 (by omega) (uT D E hc F).2;have o:∀ Y n,JbO G Y jv s k.c j->Only (fun b=>b=q\/w.heap.size<=b) Y n->JbO G n jv s k.c j:=fun Y n h1 L=>h1.only L fun b h2 e=>by
  rcases e with e|e
  ·exact(I b h2).1 e
  have:=C b h2;omega
 have H:k.tells j=EF k.c k.op.a j.gave k.told++if j.done=true then TG k.c j.took++[OA k.c k.op (sB j.took) j.err] else []:=by unfold Kl.tells EF TG;cases j.gave<;>cases j.done<;>cases k.told<;>cases j.took<;>simp
 rw[H];cases j with
 |mal r c=>
  obtain⟨q1,rfl,l⟩:=l
  exact nK (J:=fun Y=>MalO G Y q1 s k.c r c) y h hs z l (fun Y n h1 h2=>by obtain⟨q2,e,h3⟩:=o Y n ⟨q1,rfl,h1⟩ h2;cases e;exact h3)
   (fun _=>by kernel_rfl) (fun _=>by kernel_rfl) (fun _=>by kernel_rfl) (fun _=>by kernel_rfl) (fun _=>by kernel_rfl) (fun _=>by kernel_rfl) (fun _=>by kernel_rfl) (fun _=>by kernel_rfl)
   (fun Y i=>zrs i) (fun Y i=>zv7 i) (fun Y i=>zno i) (fun Y i=>zm2 i)
 |fre f=>
  obtain⟨q1,rfl,l⟩:=l
  exact nK (J:=fun Y=>FeO G Y q1 s f) y h hs z l (fun Y n h1 h2=>by obtain⟨q2,e,h3⟩:=o Y n ⟨q1,rfl,h1⟩ h2;cases e;exact h3)
   (fun _=>by kernel_rfl) (fun _=>by kernel_rfl) (fun _=>by kernel_rfl) (fun _=>by kernel_rfl) (fun _=>by kernel_rfl) (fun _=>by kernel_rfl) (fun _=>by kernel_rfl) (fun _=>by kernel_rfl)
   (fun Y i=>zm8 i) (fun Y i=>zqy i) (fun Y i=>zgh i) (fun Y i=>zf9 i)
 |aga t=>
  obtain⟨q1,rfl,l⟩:=l;have B:t.done=true->t.err=0->∃ r,t.res=some r:=fun h1 h2=>by obtain⟨r,b,f,e,_⟩:=D.fin h1 h2;exact⟨r,e⟩
  exact nK (J:=fun Y=>RrO G Y q1 s t) y h hs z l (fun Y n h1 h2=>by obtain⟨q2,e,h3⟩:=o Y n ⟨q1,rfl,h1⟩ h2;cases e;exact h3)
   (fun _=>by kernel_rfl) (fun _=>by kernel_rfl) (fun _=>by kernel_rfl) (fun _=>by kernel_rfl) (fun _=>by kernel_rfl) (fun _=>by kernel_rfl) (fun _=>by kernel_rfl) (fun _=>by kernel_rfl)
   (fun Y i=>zgc B i) (fun Y i=>zii i) (fun Y i=>zd8 i) (fun Y i=>zd5 i)
 |hei a=>
  obtain⟨q1,rfl,l⟩:=l
  exact nK (J:=fun Y=>AdO G Y q1 s a) y h hs z l (fun Y n h1 h2=>by obtain⟨q2,e,h3⟩:=o Y n ⟨q1,rfl,h1⟩ h2;cases e;exact h3)
   (fun _=>by kernel_rfl) (fun _=>by kernel_rfl) (fun _=>by kernel_rfl) (fun _=>by kernel_rfl) (fun _=>by kernel_rfl) (fun _=>by kernel_rfl) (fun _=>by kernel_rfl) (fun _=>by kernel_rfl)
   (fun Y i=>z0p i) (fun Y i=>z8a i) (fun Y i=>zqz i) (fun Y i=>zti i)
end

section

attribute [local go_sem] PB

open Go.RowKit

attribute [local go_sem ↓] Go.wp_at_zero Go.wp_at_succ

theorem z7m{s:Sh}{cl:Int}{r:Rs}{c:Option Cm}(h:jbIs s cl (.mal r c))(hd:(Jb.mal r c).done=false):r.done=false\/(r.done=true/\c=none/\∃ b,r.got=some b):=by
 have f:(r.done&&(!r.got.isSome||KC c))=false:=hd;cases hrd:r.done
 ·exact .inl rfl
 rw[hrd,Bool.true_and,Bool.or_eq_false_iff]at f;refine .inr ⟨rfl,?_,?_⟩
 ·rcases hc:c with _|x
  ·rfl
  have:=h.2 x hc;have i:=f.2;rw[hc]at i;have i:x.done=false:=i;rw[this.2.1]at i;cases i
 rcases hg:r.got with _|b
 ·have j:=f.1;rw[hg]at j;cases j
 exact⟨b,rfl⟩
structure oH (G:Nat->Prop) (p b:Nat) (w w':World) (jv:Value) (s:Sh) (cl:Int) (j:Jb) (m:Mem):Prop where
 wds:oA w' p b (j.step s cl m).2
 only:Only (fun k=> G k\/k=p\/k=b) w w'
 job:JbO (grow G w w') w' jv s cl (j.step s cl m).1
theorem mK{q p B1 B2:Nat}{T:TypeId}{x r0:Value}{f:FuncId}{w:World}{Q:Ending->World->Prop}(h1:w.cell? ⟨B1,0,.none⟩=some (.pointer (some ⟨q,0,.none⟩)))(h2:w.cell? ⟨B2,0,.none⟩=some (.pointer (some ⟨p,0,.none⟩)))(n:B1<w.heap.size)(o:B2<w.heap.size)(t:q<w.heap.size)(m:w.cell? ⟨q,8,.none⟩=some (.iface T x)) (m1:∀ W:World,(method (Tryz.prog.types.size+Made.depth) T x "Step").run Tryz.prog W= .ok (f,r0) W) (f1:∀ W:World,(callFunc f #[r0,some p]).run Tryz.prog W= .ok (.enter f #[r0,some p]) W)(b:∀ Y,jW w Y->Calls Tryz.prog f #[r0,some p] Y fun e w'=>e= .returned (.tuple #[])/\Q e w'):
  Calls Tryz.prog 123 #[some B1,some B2] w fun e w'=>e= .returned (.tuple #[])/\Q e w':=by
 replace b:=hd' b;simp[go_sem]at m1;go_in;go_wp2_with fail;refine wret 5 ?_;repeat (go_big_quiet_step (fail))
 refine wqn fun Z i=>?_;have j:=i;go_wp2_with ((with_reducible refine(b _ j).mono ?_);rintro r y ⟨rfl,l⟩);go_returns;exact⟨rfl,l⟩
theorem sI{G:Nat->Prop}{w Y Z:World}(hb:Below w.heap.size w Y)(hs:Y.heap.size<=Z.heap.size):∀ k,grow G Y Z k->grow G w Z k:=fun k b=>b.imp id (fun h=>⟨Nat.le_trans hb.size h.1,h.2⟩)
theorem oH.mk'{G:Nat->Prop}{p b:Nat}{w Y Z:World}{jv:Value}{s:Sh}{cl:Int}{j:Jb}{m:Mem}(hb:Below w.heap.size w Y)(h1:oA Z p b (j.step s cl m).2)(h2:Only (fun k=>G k\/k=p\/k=b) Y Z)(h3:JbO (grow G w Z) Z jv s cl (j.step s cl m).1):oH G p b w Z jv s cl j m:=
 ⟨h1,(Only.of_below (F:=fun k=>G k\/k=p\/k=b) hb).trans h2 (fun _ _ e=>e),h3⟩
theorem z6s{G:Nat->Prop}{q p b B1 B2:Nat}{s:Sh}{cl:Int}{j:Jb}{m:Mem}{w:World}{jv:Value}(h1:w.cell? ⟨B1,0,.none⟩=some (.pointer (some ⟨q,0,.none⟩)))(h2:w.cell? ⟨B2,0,.none⟩=some (.pointer (some ⟨p,0,.none⟩)))(J:B1<w.heap.size)(L:B2<w.heap.size)(M:q<w.heap.size)(E:w.cell? ⟨q,8,.none⟩=some jv) (o:JbO G w jv s cl j) (B:∀ k,G k->k<w.heap.size) (I:oA w p b m) (H:¬ G p) (hb:¬ G b) (F:Fits s m) (z:jbIs s cl j) (hd:j.done=false) (hs:m.st<1000000000):
  Calls Tryz.prog 123 #[some B1,some B2] w fun e w'=>e= .returned (.tuple #[])/\oH G p b w w' jv s cl j m:=by
 cases j with
 |mal r c=>
  obtain⟨q1,rfl,o⟩:=o;refine mK h1 h2 J L M E (fun _=>by kernel_rfl) (fun _=>by kernel_rfl) (Q:=fun _ w'=>oH G p b w w' _ s cl (.mal r c) m) fun Y i=>(zt8 (o.below i) (I.below i) H hb F ⟨fun x y=>(z.1.sk x y).1.ok,fun x y=>(z.1.rn x y).ok⟩ hs (z7m z hd)).mono fun e w' hS=>?_;obtain⟨n,Z,c',V,C⟩:=hS;refine⟨n.ret,.mk' i n.wds n.only ?_⟩;rw[V];obtain⟨a1,N,R,X,S,D,T,U,O⟩:=C;refine⟨q1,rfl,fun k l=>?_,sI i n.only.size _ N,R,X,S,fun k l=>⟨sI i n.only.size _ (D k l).1,(D k l).2⟩,T,U,fun x y=>⟨⟨sI i n.only.size _ (O x y).1.1,(O x y).1.2⟩,(O x y).2⟩⟩;rcases l with l|l
  ·exact Nat.lt_of_lt_of_le (B k l) (Nat.le_trans i.size n.only.size)
  exact l.2
 |fre f=>obtain⟨q1,rfl,o⟩:=o;refine mK h1 h2 J L M E (fun _=>by kernel_rfl) (fun _=>by kernel_rfl) (Q:=fun _ w'=>oH G p b w w' _ s cl (.fre f) m) fun Y i=>(WW (o.below i) (I.below i) H hb F z.ok hs).mono fun e w' hS=>?_;obtain⟨n,C⟩:=hS;refine⟨n.ret,.mk' i n.wds n.only ?_⟩;obtain⟨a1,R,N,D⟩:=C;exact⟨q1,rfl,sI i n.only.size _ a1,R,N,fun h=>sI i n.only.size _ (D h)⟩
 |aga t=>
  obtain⟨q1,rfl,o⟩:=o;refine mK h1 h2 J L M E (fun _=>by kernel_rfl) (fun _=>by kernel_rfl) (Q:=fun _ w'=>oH G p b w w' _ s cl (.aga t) m) fun Y i=>(zza (o.below i) (I.below i) H hb F z.ok hs).mono fun e w' hS=>?_;obtain⟨n,C⟩:=hS;refine⟨n.ret,.mk' i n.wds n.only ⟨q1,rfl,C.weak (sI i n.only.size) fun k l=>?_⟩⟩;rcases l with l|l
  ·exact Nat.lt_of_lt_of_le (B k l) (Nat.le_trans i.size n.only.size)
  exact l.2
 |hei a=>
  obtain⟨q1,rfl,o⟩:=o;refine mK h1 h2 J L M E (fun _=>by kernel_rfl) (fun _=>by kernel_rfl) (Q:=fun _ w'=>oH G p b w w' _ s cl (.hei a) m) fun Y i=>(zyd q1 p b s a m Y (o.below i).2 (I.below i) (fun e=>H (e ▸ o.1)) (fun e=>hb (e ▸ o.1)) F z.1 hs).mono fun e w' hS=>?_;refine⟨hS.ret,.mk' i hS.wds (hS.only.weak fun k l=>?_) ⟨q1,rfl,.inl o.1,hS.row⟩⟩;rcases l with rfl|l|l
  ·exact .inl o.1
  ·exact .inr (.inl l)
  exact .inr (.inr l)
def iF (k:Kl):List Fr:=match k.job with
 | some _=> [⟨k.op.k,k.steps, [k.op.a,k.op.n,0,0,0,0,0,0]⟩]
 | none=> []
structure KlO (F:Nat->Prop) (w:World) (q:Nat) (s:Sh) (k:Kl):Prop where
 lt:∀ b,F b->b < w.heap.size
 own:F q
 at':∃ sp sl jv G,aA w q (PB s k (!k.job.isSome) jv (.pointer (some ⟨sp,0,.none⟩))) 161/\SK 0 w sp sl 1 (iF k)/\(∀ b,foot sp sl b->F b/\b≠q)/\(∀ b,G b->F b/\b≠q/\¬ foot sp sl b)/\(k.job=none->jv= .nilIface)/\(∀ j,k.job=some j->JbO G w jv s k.c j)
theorem KlO.only{F G:Nat->Prop}{w w':World}{q:Nat}{s:Sh}{k:Kl}(h:KlO F w q s k)(f:Only G w w')(hd:∀ b,F b->¬ G b):KlO F w' q s k:=by
 obtain⟨h1,h2,sp,sl,jv,H,a1,m,i,l,n,o⟩:=h;exact⟨fun b hb=>Nat.lt_of_lt_of_le (h1 b hb) f.size,h2,sp,sl,jv,H,a1.only f (hd q h2),f.stk m (fun b hb=>hd b (i b hb).1),i,l,n,fun j p=>(o j p).only f (fun b hb=>hd b (l b hb).1)⟩
theorem KlO.below{F:Nat->Prop}{w w':World}{q:Nat}{s:Sh}{k:Kl}(h:KlO F w q s k)(hb:Below w.heap.size w w'):KlO F w' q s k:=h.only (Only.of_below (F:=fun _=>False) hb) (fun _ _ e=>e)
theorem KlO.weak{F G:Nat->Prop}{w:World}{q:Nat}{s:Sh}{k:Kl}(h:KlO F w q s k)(f:∀ b,F b->G b)(o:∀ b,G b->b<w.heap.size):KlO G w q s k:=by
 obtain⟨h1,h2,sp,sl,jv,H,a1,l,i,j,m,n⟩:=h;exact⟨o,f q h2,sp,sl,jv,H,a1,l,fun b hb=>⟨f b (i b hb).1,(i b hb).2⟩,fun b hb=>⟨f b (j b hb).1,(j b hb).2⟩,m,n⟩
theorem ztx{q sp:Nat}{s:Sh}{k:Kl}{jv sl:Value}{most:Int}{fs:List Fr}{w:World}(i:Bool)(h:aA w q (PB s k i jv (.pointer (some ⟨sp,0,.none⟩))) 161)(hs:SK 0 w sp sl most fs)(j:i=false->fs.length=1):
  Calls Tryz.prog 66 #[some q] w fun e w'=>e= .returned (.bool i)/\w'=w:=by
 have n:q<w.heap.size:=h.lt;have m:=h.cell;have b:=ZK hs;cases i
 ·rw[j rfl]at b;replace b:=hd' b;clear h hs j;go_in;go_wp2_with (go_at_call 108;(with_reducible refine b.out.mono ?_);rintro r o ⟨rfl,l⟩;obtain rfl:=l.symm);go_returns;exact⟨rfl,rfl⟩
 clear h hs j b;go_in;go_wp2_with fail;go_returns;exact⟨rfl,rfl⟩
theorem KlO.rests{F:Nat->Prop}{w:World}{q:Nat}{s:Sh}{k:Kl}(h:KlO F w q s k):Calls Tryz.prog 66 #[some q] w fun e w'=>e= .returned (.bool k.rests)/\w'=w:=by
 obtain⟨h1,h2,sp,sl,jv,H,a1,b,i,l,m,n⟩:=h;refine ztx (!k.job.isSome) a1 b (fun e=>?_);unfold iF;rcases hj:k.job with _|j
 ·rw[hj]at e;cases e
 rfl
structure RJ (F:Nat->Prop) (q p b:Nat) (w w':World) (r:Ending) (s:Sh) (k:Kl) (m:Mem):Prop where
 ret:∃ v,r= .returned (.tuple #[v,.int .i64 (k.step s m).2.2.2])/\w'.ownsRow w.heap.size 62 8 v (k.step s m).2.2.1.length ((k.step s m).2.2.1.flatMap fun e=> e.cells.toList)
 wds:oA w' p b (k.step s m).2.1
 kl:KlO (grow F w w') w' q s (k.step s m).1
 only:Only (fun i=> F i\/i=p\/i=b) w w'
theorem zuq{F:Nat->Prop}{q p b:Nat}{s:Sh}{k:Kl}{m:Mem}{w:World}(h:KlO F w q s k)(E:oA w p b m)(B:k.job=none):
  Calls Tryz.prog 93 #[some q,some p] w fun r w'=>RJ F q p b w w' r s k m:=by
 have o:k.step s m=(k,m, [],2):=by unfold Kl.step;rw[B]
 have l:=((Below.refl w.heap.size w).alloc lr (.cells #[some q] 57)).alloc (by simp) (.cells #[some p] 101);have y:k.rests=true:=by unfold Kl.rests;rw[B];rfl
 have i:=(h.below l).rests;rw[y]at i;replace i:=hd' i;have n:Hid (∀ W,jW w W->RJ F q p b w W (.returned (.tuple #[.slice none 0 0,.int .i64 2])) s k m):=hd' fun W hb=>by
  refine⟨⟨_,by rw[o],?_⟩,?_,?_,Only.of_below hb⟩
  ·rw[o];exact JH _ _
  ·rw[o];exact E.below hb
  rw[o];exact(h.below hb).weak (fun b hb=>.inl hb) (IE h.lt hb.size)
 clear h E o B y;go_in;go_upto_region 1 with fail;have z:aA ((w.alloc (.cells #[some q] 57)).alloc (.cells #[some p] 101)) w.heap.size #[some q] 57:=aA.alloc (jA _ _) _;generalize (w.alloc (.cells #[some q] 57)).alloc (.cells #[some p] 101)=X at *;obtain⟨H,J,j⟩:=hidv w.heap.size;rw[<-j]at z ⊢;clear j;have L:H<X.heap.size:=z.lt;have I:=z.cell;have D:∀ W:World,(binOp .eql 57 (.pointer (some ⟨q,0,.none⟩)) (.pointer none)).run Tryz.prog W= .ok (.bool false) W:=fun W=>by kernel_rfl
 go_wp2_with (go_at_call 66;(with_reducible refine i.out.mono ?_);rintro r M ⟨rfl,C⟩;obtain rfl:=C.symm);go_returns;exact n _ l
theorem DY{w:World}{B C:Nat}{E:TypeId}{size:Nat}{v:Value}{n:Nat}{xs:List Value}(h:w.ownsRow B E size v n xs)(hc:C<=B):w.ownsRow C E size v n xs:=by
 refine⟨h.1,?_⟩;rcases h.2 with f|⟨g,cap,b,rfl,h1,r⟩
 ·exact .inl f
 exact .inr ⟨g,cap,b,rfl,Nat.le_trans hc h1,r⟩
theorem size_alloc(w:World)(o:Obj):(w.alloc o).heap.size=w.heap.size+1:=by simp
theorem zzj{F G L:Nat->Prop}{q p b sp:Nat}{s:Sh}{k:Kl}{m:Mem}{j:Jb}{jv sl:Value}{w Y Z:World}{r:Ending}(N:∀ i,F i->i<w.heap.size)(S:F q)(X:¬ F p)(hb:¬ F b)(U:k.job=some j)(t:∀ i,foot sp sl i->F i/\i≠q)(O:∀ i,G i->F i/\i≠q/\¬ foot sp sl i)(C:∀ i,L i->G i\/(w.heap.size<=i/\i<Y.heap.size)) (T:oA Y p b (j.step s k.c m).2) (E:Only (fun i=>F i\/i=p\/i=b) w Y) (R:JbO L Y jv s k.c (j.step s k.c m).1)(z:TK q sp s {k with told:=k.told||(j.step s k.c m).1.gave,steps:=k.steps+1} (j.step s k.c m).1.done jv sl 1 [⟨k.op.k,k.steps+1, [k.op.a,k.op.n,0,0,0,0,0,0]⟩] (k.tells (j.step s k.c m).1) Y Z r):
  ∃ v,r= .returned v/\RJ F q p b w Z (.returned (.tuple #[v,.int .i64 0])) s k m:=by
 have M:k.step s m=(k.after (j.step s k.c m).1,(j.step s k.c m).2,k.tells (j.step s k.c m).1,0):=by unfold Kl.step;rw[U]
 obtain⟨v,hv,H⟩:=z.ret;have I:=E.size;have J:=z.only.size;have V:=N q S;have y:∀ i,(i=q\/foot sp sl i)->F i:=fun i hi=>by rcases hi with rfl|hi;exact S;exact(t i hi).1
 have o:∀ i,L i->¬ (i=q\/foot sp sl i):=fun i hi e=>by
  rcases C i hi with h|h
  ·rcases e with e|e
   ·exact(O i h).2.1 e
   exact(O i h).2.2 e
  have:=N i (y i e);omega
 refine⟨v,hv,⟨⟨_,by rw[M],?_⟩,?_,?_,?_⟩⟩
 ·rw[M];exact DY H I
 ·rw[M];exact T.only z.only (fun e=>X (y p e)) (fun e=>hb (y b e))
 ·rw[M];generalize (j.step s k.c m).1=j' at *;have D:=R.only z.only o;have f:=z.row;have l:=z.stk;refine⟨IE N (Nat.le_trans I J),.inl S,?_⟩;cases hd:j'.done
  ·rw[hd]at f l;refine⟨sp,sl,jv,L,?_,?_,fun i hi=>⟨.inl (t i hi).1,(t i hi).2⟩,fun i hi=>⟨?_,fun e=>o i hi (.inl e),fun e=>o i hi (.inr e)⟩,fun e=>?_,fun x B=>?_⟩
   ·have e:(!(k.after j').job.isSome)=false:=by simp[Kl.after,hd]
    rw[e];exact f
   ·have e:iF (k.after j')= [⟨k.op.k,k.steps+1, [k.op.a,k.op.n,0,0,0,0,0,0]⟩]:=by unfold iF Kl.after;simp[hd]
    rw[e];exact l
   ·rcases C i hi with h|h
    ·exact .inl (O i h).1
    exact .inr ⟨h.1,Nat.lt_of_lt_of_le h.2 J⟩
   ·simp[Kl.after,hd]at e
   have e:(k.after j').job=some j':=by simp[Kl.after,hd]
   rw[e]at B;injection B with B;subst B;exact D
  rw[hd]at f l;refine⟨sp,.slice none 0 0,.nilIface,fun _=>False,?_,?_,fun i hi=>?_,fun i hi=>hi.elim,fun _=>rfl,fun x B=>?_⟩
  ·have e:(!(k.after j').job.isSome)=true:=by simp[Kl.after,hd]
   rw[e];exact f
  ·have e:iF (k.after j')= []:=by unfold iF Kl.after;simp[hd]
   rw[e];exact l
  ·rcases hi with rfl|hi
   ·exact⟨.inl (t _ (.inl rfl)).1,(t _ (.inl rfl)).2⟩
   cases hi
  simp[Kl.after,hd]at B
 exact E.trans z.only (fun i _ hi=>.inl (y i hi))
theorem zty{F:Nat->Prop}{q p b:Nat}{s:Sh}{k:Kl}{m:Mem}{j:Jb}{w:World}(h:KlO F w q s k)(hw:oA w p b m)(hp:¬ F p)(hb:¬ F b)(hf:Fits s m)(c5:m.fit)(hj:k.job=some j)(c8:jbIs s k.c j)(c7:j.done=false)(hc:0<=k.c/\k.c<s.c)(er:0<=k.steps/\k.steps<1000000)(hs:m.st<1000000000):
  Calls Tryz.prog 93 #[some q,some p] w fun r w'=>RJ F q p b w w' r s k m:=by
 have ca:k.rests=false:=by unfold Kl.rests;rw[hj];rfl
 obtain⟨hF,hq,sp,sl,jv,G,b4,b6,B,V,_,bj⟩:=id h;have hJ:=bj j hj;clear bj;have hi:(!k.job.isSome)=false:=by rw[hj];rfl
 rw[hi]at b4;have c6:iF k= [⟨k.op.k,k.steps, [k.op.a,k.op.n,0,0,0,0,0,0]⟩]:=by unfold iF;rw[hj]
 rw[c6]at b6;have e4:IntKind.i64.wrap (k.steps+1)=k.steps+1:=by rw[IntKind.wrap_i64];omega
 have R:=((Below.refl w.heap.size w).alloc lr (.cells #[some q] 57)).alloc (by simp) (.cells #[some p] 101);have hH:aA ((w.alloc (.cells #[some q] 57)).alloc (.cells #[some p] 101)) w.heap.size #[some q] 57:=aA.alloc (jA _ _) _;have hK:aA ((w.alloc (.cells #[some q] 57)).alloc (.cells #[some p] 101)) (w.heap.size+1) #[some p] 101:=by have h:=jA (w.alloc (.cells #[some q] 57)) (.cells #[some p] 101);rw[size_alloc]at h;exact h
 have b3:=(h.below R).rests;rw[ca]at b3;replace b3:=hd' b3;clear h ca hi c6;have bm:((w.alloc (.cells #[some q] 57)).alloc (.cells #[some p] 101)).heap.size=w.heap.size+2:=by rw[size_alloc,size_alloc]
 have C:=b4.below R;have ba:=b6.below R;have bx:=hJ.below R;have cg:=hw.below R;go_in;go_upto_region 1 with fail;generalize (w.alloc (.cells #[some q] 57)).alloc (.cells #[some p] 101)=X at *;obtain⟨B2,eh,bf⟩:∃ H,Hid (H=w.heap.size+1)/\H=w.heap.size+1:=⟨_,hd' rfl,rfl⟩;obtain⟨B1,eg,bc⟩:=hidv w.heap.size;simp only[<-bf]at hK ⊢;rw[<-bc]at hH ⊢;have ec:w.heap.size<=B1:=by omega
 have ed:w.heap.size<=B2:=by omega
 clear bc bf;have l1:B1<X.heap.size:=hH.lt;have c0:=ce (.pointer (some ⟨q,0,.none⟩)) (hH.cell 0);have ef:∀ W:World,(binOp .eql 57 (.pointer (some ⟨q,0,.none⟩)) (.pointer none)).run Tryz.prog W= .ok (.bool false) W:=fun W=>by kernel_rfl
 have ej:∀ (fn:Fn) (first cap:Array Value) (w:World),(Instr.makeFunc fn first cap).run Tryz.prog w= .ok (.func fn first cap) w:=fun _ _ _ _=>rfl;have e9:=hF q hq;have b0:∀ i,G i->i<w.heap.size:=fun i hi=>hF i (V i hi).1;have ek:=hw.ltp;have ei:=hw.ltb;have l:=(Below.refl X.heap.size X).alloc lr (.cells #[.bool false] 4);have b1:=z6s (w:=X.alloc (.cells #[.bool false] 4)) (q:=q) (p:=p) (b:=b) (G:=G) (s:=s) (cl:=k.c) (j:=j) (m:=m) (jv:=jv) (B1:=B1) (B2:=B2) ((hH.below l).cell 0) ((hK.below l).cell 0) (hH.below l).lt (hK.below l).lt (C.below l).lt ((C.below l).cell 8) (bx.below l) (fun i hi=>by have:=b0 i hi;rw[size_alloc];omega) (cg.below l) (fun e=>hp (V p e).1) (fun e=>hb (V b e).1) hf c8 c7 hs
 have hg:=zyf B1 B2 X (Q:=fun Y=>oH G p b (X.alloc (.cells #[.bool false] 4)) Y jv s k.c j m) (b1.mono fun e w' y=>⟨y.1,y.2,by
  have hn:aA (X.alloc (.cells #[.bool false] 4)) X.heap.size #[.bool false] 4:=jA _ _
  refine hn.only y.2.only (fun e=>?_)
  rcases e with e|e|e
  ·have:=b0 _ e;omega
  ·omega
  ·omega⟩)
 replace hg:=hd' hg;clear b1;go_upto_region 7 with(first|(go_at_call 66;(with_reducible refine b3.out.mono ?_);rintro r w1 ⟨rfl,e2⟩;obtain rfl:=e2.symm)|(go_at_call 122;(with_reducible refine hg.out.mono ?_);rintro r T ⟨rfl,Y,hQ,bn⟩;have N:aA T B1 #[some q] 57:=(by rw[bn];exact((hH.below l).only hQ.only (fun e=>by rcases e with e|e|e;have:=b0 _ e;omega;omega;omega)).other (by omega) _ _);have cq:=ce (.pointer (some ⟨q,0,.none⟩)) (N.cell 0);have e5:=N.lt));have D:T=Y.setCell ⟨w.heap.size+2,0,.none⟩ (.bool true):=by rw[bn,bm]
 rw[<-D];have c4:X.heap.size=w.heap.size+2:=bm;have bz:(X.alloc (.cells #[.bool false] 4)).heap.size=w.heap.size+3:=by rw[size_alloc,c4]
 have cb:T.heap.size=Y.heap.size:=by rw[D];exact size_set _ _ _
 have cm:Only (fun i=>F i\/i=p\/i=b) w (X.alloc (.cells #[.bool false] 4)):=Only.of_below (xA R l);have cp:Only (fun i=>F i\/i=p\/i=b) w Y:=cm.trans hQ.only (fun i _ hi=>hi.imp (fun e=>(V i e).1) id);have ch:Only (fun i=>F i\/i=p\/i=b) w T:=by rw[D];exact Only.setCell cp (.inr (by show w.heap.size<=w.heap.size+2;omega)) _
 have bp:∀ i,(i=q\/foot sp sl i)->¬ (G i\/i=p\/i=b):=fun i hi e=>by
  have bs:F i:=by rcases hi with rfl|hi;exact hq;exact(B i hi).1
  rcases e with e|e|e
  ·rcases hi with rfl|hi
   ·exact(V _ e).2.1 rfl
   exact(V i e).2.2 hi
  ·exact hp (e ▸ bs)
  exact hb (e ▸ bs)
 have b2:∀ i,(i=q\/foot sp sl i)->i<w.heap.size:=fun i hi=>by rcases hi with rfl|hi;exact e9;exact hF i (B i hi).1
 have E:Only (fun i=>i=w.heap.size+2) Y T:=by rw[D];exact Only.setCell (F:=fun i=>i=w.heap.size+2) (Only.refl _ _) (.inl rfl) _
 have o:=((C.below l).only hQ.only (bp q (.inl rfl))).only E (by omega);have J:=E.stk (hQ.only.stk (ba.below l) (fun i hi=>bp i (.inr hi))) (fun i hi e=>by have:=b2 i (.inr hi);omega)
 have bk:=hQ.job.only E (fun i hi e=>by
  rcases hi with hi|hi
  ·have:=b0 i hi;omega
  ·omega)
 have cc:=hQ.wds.only E (by omega) (by omega);have O:∀ i,grow G (X.alloc (.cells #[.bool false] 4)) Y i->G i\/(w.heap.size<=i/\i<T.heap.size):=fun i hi=>by
  rcases hi with hi|hi
  ·exact .inl hi
  exact .inr (by omega)
 generalize cv:grow G (X.alloc (.cells #[.bool false] 4)) Y=G2 at *;clear bn D hQ hg bm c4 bz cm cp E l b3 C ba bx cg hJ b4 b6 hw cv cb bp;have eu:∀ Z W:World,Only (fun i=>i=q\/foot sp sl i) Z W->Only (fun i=>F i\/i=p\/i=b) Z W:=fun Z W y=>y.weak (fun i hi=>.inl (by rcases hi with rfl|hi;exact hq;exact(B i hi).1));have bi:=hd' (fun (W:World) (r:Ending) (Y2:World) (h1:oA Y2 p b (j.step s k.c m).2) (h2:Only (fun i=>F i\/i=p\/i=b) w Y2) (h3:JbO G2 Y2 jv s k.c (j.step s k.c m).1) (h4:∀ i,G2 i->G i\/(w.heap.size<=i/\i<Y2.heap.size)) (hT:TK q sp s {k with told:=k.told||(j.step s k.c m).1.gave,steps:=k.steps+1} (j.step s k.c m).1.done jv sl 1 [⟨k.op.k,k.steps+1, [k.op.a,k.op.n,0,0,0,0,0,0]⟩] (k.tells (j.step s k.c m).1) Y2 W r)=>zzj hF hq hp hb hj B V h4 h1 h2 h3 hT);have c9:=(MJ c8 hc c7 hf (by exact c5)).2.1
 have L:=hd' (fun (Y2:World) (h1:aA Y2 q (PB s {k with steps:=k.steps+1} false jv (.pointer (some ⟨sp,0,.none⟩))) 161) (h2:SK 0 Y2 sp sl 1 [⟨k.op.k,k.steps+1, [k.op.a,k.op.n,0,0,0,0,0,0]⟩]) (h3:JbO G2 Y2 jv s k.c (j.step s k.c m).1) (h4:∀ i,G2 i->i<Y2.heap.size)=>z6y (k:= {k with steps:=k.steps+1}) h1 h2 (fun e=>(B q e).2 rfl) h3 (fun i hi=>⟨fun e=>by
   rcases O i hi with y|y
   ·exact(V i y).2.1 e
   ·have:=b2 i (.inl e);omega,fun e=>by
   rcases O i hi with y|y
   ·exact(V i y).2.2 e
   ·have:=b2 i (.inr e);omega⟩) h4 c9 hf.may hc)
 generalize (j.step s k.c m).1=j2 at *;generalize (j.step s k.c m).2=m2 at *;obtain⟨eb,sc,sm⟩:=s;obtain⟨kc,kf,⟨ok,oa,on⟩,kj,kt,U⟩:=k;dsimp only[PB]at o J e4 L bk;have e7:q<T.heap.size:=o.lt;have f2:=GA o;have cr:=ci U (o.cell 12);go_upto_region 8 with fail;have z:aA (T.setCell ⟨q,12,.none⟩ (.int .i64 (U+1))) q #[eb,sc,sm,kc,kf,ok,oa,on,jv,.bool false,kt,some sp,.int .i64 (U+1)] 161:=o.set 12 (.int .i64 (U+1));have oq:Only (fun i=>i=q) T (T.setCell ⟨q,12,.none⟩ (.int .i64 (U+1))):=Only.setCell (F:=fun i=>i=q) (Only.refl _ _) (.inl rfl) _;have b7:=oq.stk J (fun i hi e=>(B i hi).2 e)
 have bu:=bk.only oq (fun i hi e=>by
  rcases O i hi with y|y
  ·exact(V i y).2.1 e
  ·omega)
 have cd:=cc.only oq (fun e=>hp (e ▸ hq)) (fun e=>hb (e ▸ hq));have cj:=ch.trans oq (fun i _ hi=>.inl (by rw[hi];exact hq));have M:=N.only oq (by omega);have el:T.heap.size<=(T.setCell ⟨q,12,.none⟩ (.int .i64 (U+1))).heap.size:=Nat.le_of_eq (size_set _ _ _).symm;generalize T.setCell ⟨q,12,.none⟩ (.int .i64 (U+1))=w3 at *;clear o J bk cc ch N cq e5 e7 f2 cr oq;have e8:q<w3.heap.size:=z.lt;have e6:B1<w3.heap.size:=M.lt;have d0:=ce (.pointer (some ⟨q,0,.none⟩)) (M.cell 0);have cs:=ce (.pointer (some ⟨sp,0,.none⟩)) (z.cell 11);have cu:=ci (U+1) (z.cell 12);refine wret 8 ?_;repeat (go_big_quiet_step (fail))
 refine wqn fun w4 I=>?_;have b5:=z.below I;have b8:=b7.below I;have bv:=bu.below I;have cf:=cd.below I;have bg:=M.below I;have ck:=cj.trans (Only.of_below (F:=fun _=>False) I) (fun _ _ y=>y.elim);have em:=I.size;clear z b7 bu cd cj M e8 e6 d0 cs cu;have bb:=zz4 (pc':=U+1) b8 (by simp);replace bb:=hd' bb;go_upto_region 9 with(go_at_call 124;(with_reducible refine bb.out.mono ?_);rintro r w5 ⟨rfl,S,b9⟩);have e0:¬ foot sp sl q:=fun e=>(B q e).2 rfl;have bq:=b5.only S e0
 have bw:=bv.only S (fun i hi e=>by
  rcases O i hi with y|y
  ·exact(V i y).2.2 e
  ·have:=b2 i (.inr e);omega)
 have e3:=cf.only S (fun e=>hp (B p e).1) (fun e=>hb (B b e).1);have bh:=bg.only S (fun e=>by have:=b2 B1 (.inr e);omega);have ea:=ck.trans S (fun i _ hi=>.inl (B i hi).1);have ep:=S.size;have cz:qH [(⟨ok,U, [oa,on,0,0,0,0,0,0]⟩:Fr)] 1 (U+1)= [⟨ok,U+1, [oa,on,0,0,0,0,0,0]⟩]:=rfl;rw[cz]at b9;clear b5 b8 bv cf ck bg bb;have es:B1<w5.heap.size:=bh.lt;have g0:=ce (.pointer (some ⟨q,0,.none⟩)) (bh.cell 0)
 have e1:=hd' (L w5 bq b9 bw (fun i hi=>by
  rcases O i hi with y|y
  ·have:=b0 i y;omega
  ·omega))
 have cy:=hd' (fun W r hT=>bi W r w5 e3 ea bw (fun i hi=>by
  rcases O i hi with y|y
  ·exact .inl y
  ·exact .inr (by omega)) hT)
 clear L bi;go_wp2_with (go_at_call 125;(with_reducible refine e1.out.mono ?_);rintro r w6 hT;obtain⟨v6,rfl,cx⟩:=cy _ _ hT);go_returns;exact cx
def QJ (w w':World) (e:Ending) (s:Sh) (cl:Int) (j:Jb):Prop:=∃ jv,e= .returned jv/\JbO (fun i=> w.heap.size<=i/\i < w'.heap.size) w' jv s cl j/\Below w.heap.size w w'
theorem zue{q sp:Nat}{s:Sh}{k:Kl}{i:Bool}{jv:Value}{w:World}(h:aA w q (PB s k i jv (.pointer (some ⟨sp,0,.none⟩))) 161)(hk:1<=k.op.k/\k.op.k<=4):
  Calls Tryz.prog 98 #[some q] w fun e w'=>QJ w w' e s k.c (UB s k.c k.first k.op.k k.op.a k.op.n):=by
 have J:=fun W=>DW s k.c k.op.n k.first W;have L:=fun W=>JV s k.c k.op.a W;have M:=fun W=>z3p s k.c k.op.a k.op.n k.first W;have N:=fun W=>z2a s k.c k.op.a W;have T:(k.op.k=1/\UB s k.c k.first k.op.k k.op.a k.op.n= .mal (CB s k.c k.op.n k.first) none)\/(k.op.k=2/\UB s k.c k.first k.op.k k.op.a k.op.n= .fre (nB s k.c k.op.a))\/(k.op.k=3/\UB s k.c k.first k.op.k k.op.a k.op.n= .aga (iD s k.c k.op.a k.op.n k.first))\/(k.op.k=4/\UB s k.c k.first k.op.k k.op.a k.op.n= .hei (jD s k.c k.op.a)):=by
  have:k.op.k=1\/k.op.k=2\/k.op.k=3\/k.op.k=4:=by omega
  rcases this with e|e|e|e
  ·exact .inl ⟨e,by rw[e];rfl⟩
  ·exact .inr (.inl ⟨e,by rw[e];rfl⟩)
  ·exact .inr (.inr (.inl ⟨e,by rw[e];rfl⟩))
  exact .inr (.inr (.inr ⟨e,by rw[e];rfl⟩))
 obtain⟨j,b2⟩:∃ j,j=UB s k.c k.first k.op.k k.op.a k.op.n:=⟨_,rfl⟩;rw[<-b2]at T ⊢;clear b2 hk;have b1:=fun (Y:World) (q:Nat) (h:aA Y q (RA s (nB s k.c k.op.a) (.pointer none)) 246)=>vX h;generalize CB s k.c k.op.n k.first=b4 at *;generalize nB s k.c k.op.a=b0 at *;generalize iD s k.c k.op.a k.op.n k.first=b3 at *;generalize jD s k.c k.op.a=Z at *;obtain⟨B,O,⟨ok,oa,on⟩,kj,kt,ks⟩:=k;dsimp only at T J L M N ⊢
 have o:=hd' (fun (X Y W:World) (q1 E:Nat) (D:Below w.heap.size w X) (hO:RsO (fun i=>X.heap.size<=i/\i<Y.heap.size) Y q1 s b4) (hb:Below X.heap.size X Y) (hE:aA W E (GG s B (.pointer (some ⟨q1,0,.none⟩)) (.pointer none)) 208) (b5:Y.heap.size<=E) (hW:Below Y.heap.size Y W)=>
  (⟨_,rfl,⟨E,rfl,fun i hi=>hi.2,⟨Nat.le_trans (Nat.le_trans D.size hb.size) b5,hE.lt⟩,q1,0,fun i=>X.heap.size<=i/\i<Y.heap.size,fun i hi=>⟨⟨Nat.le_trans D.size hi.1,Nat.lt_of_lt_of_le hi.2 hW.size⟩,fun e=>by omega⟩,hE,hO.bel hW,fun x hx=>(by cases hx)⟩,xA (xA D hb) hW⟩:QJ w W (.returned (.iface 203 (.pointer (some ⟨E,0,.none⟩)))) s B (.mal b4 none)))
 have p:=hd' (fun (X Y:World) (q1:Nat) (D:Below w.heap.size w X) (h1:X.heap.size<=q1) (b:aA Y q1 (RA s b0 (.pointer none)) 246) (hb:Below X.heap.size X Y)=>
  (⟨_,rfl,⟨q1,rfl,⟨Nat.le_trans D.size h1,b.lt⟩,(b1 Y q1 b).2.imp (fun q2 hh=>⟨hh.1,fun e=>by have:=hh.2 e;rw[this];exact⟨Nat.le_trans D.size h1,b.lt⟩⟩)⟩,xA D hb⟩:QJ w Y (.returned (.iface 212 (.agg #[some q1]))) s B (.fre b0)))
 have y:=hd' (fun (X Y:World) (q1:Nat) (D:Below w.heap.size w X) (b:RrO (fun i=>X.heap.size<=i/\i<Y.heap.size) Y q1 s b3) (hb:Below X.heap.size X Y)=>
  (⟨_,rfl,⟨q1,rfl,b.weak (fun i hi=>⟨Nat.le_trans D.size hi.1,hi.2⟩) (fun i hi=>hi.2)⟩,xA D hb⟩:QJ w Y (.returned (.iface 216 (.agg #[some q1]))) s B (.aga b3)))
 have z:=hd' (fun (X Y:World) (q1:Nat) (D:Below w.heap.size w X) (h1:X.heap.size<=q1) (b:aA Y q1 (DA s Z) 252) (hb:Below X.heap.size X Y)=>
  (⟨_,rfl,⟨q1,rfl,⟨Nat.le_trans D.size h1,b.lt⟩,b⟩,xA D hb⟩:QJ w Y (.returned (.iface 220 (.agg #[some q1]))) s B (.hei Z)))
 clear b1;obtain⟨l,F,H⟩:=s;dsimp only[PB]at h;dsimp only at J L M N;replace J:=hd' J;replace L:=hd' L;replace M:=hd' M;replace N:=hd' N;have R:q<w.heap.size:=h.lt;have I:=h.cell;rcases T with⟨rfl,U⟩|⟨rfl,U⟩|⟨rfl,U⟩|⟨rfl,U⟩;case inl=>
  subst U;clear L M N p y z;go_in;go_upto_region 3 with fail;have hd:=h.drew;have bd:Below w.heap.size w w.drew:=br.drew;clear R I h;have R:q<w.drew.heap.size:=hd.lt;have hS:=hd' (fun (Y:World) (b:aA Y q #[l,F,H,B,O,.int .i64 1,oa,on,jv,i,kt,some sp,ks] 161)=>(⟨b.cell 0,b.cell 1,b.cell 2,b.cell 3,b.cell 4,b.cell 7⟩:Y.cell? ⟨q,0,.none⟩=some (.int .i64 l)/\Y.cell? ⟨q,1,.none⟩=some (.int .i64 F)/\Y.cell? ⟨q,2,.none⟩=some (.int .i64 H)/\Y.cell? ⟨q,3,.none⟩=some (.int .i64 B)/\Y.cell? ⟨q,4,.none⟩=some (.int .i64 O)/\Y.cell? ⟨q,7,.none⟩=some (.int .i64 on)))
  go_region_held3 (fun Y=>Y.cell? ⟨q,0,.none⟩=some (.int .i64 l)/\Y.cell? ⟨q,1,.none⟩=some (.int .i64 F)/\Y.cell? ⟨q,2,.none⟩=some (.int .i64 H)/\Y.cell? ⟨q,3,.none⟩=some (.int .i64 B)/\Y.cell? ⟨q,4,.none⟩=some (.int .i64 O)/\Y.cell? ⟨q,7,.none⟩=some (.int .i64 on))
   (first|exact hS _ hd|exact hS _ h1|exact hS _ (h1.alloc _))
   (first|(go_at_call 128;refine(J _).mono ?_;rintro r S ⟨q1,rfl,C,m⟩;have h1:=hd.below m))
  go_wp2_with fail;go_returns;exact o w.drew S _ q1 S.heap.size bd C m (jA _ _) lr (br.alloc lr _)
 case inr.inl=>
  subst U;clear J M N o y z;go_in;go_upto_region 5 with fail;have hd:=h.drew;have bd:Below w.heap.size w w.drew:=br.drew;clear R I h;have R:q<w.drew.heap.size:=hd.lt;have hS:=hd' (fun (Y:World) (b:aA Y q #[l,F,H,B,O,.int .i64 2,oa,on,jv,i,kt,some sp,ks] 161)=>(⟨b.cell 0,b.cell 1,b.cell 2,b.cell 3,b.cell 6⟩:Y.cell? ⟨q,0,.none⟩=some (.int .i64 l)/\Y.cell? ⟨q,1,.none⟩=some (.int .i64 F)/\Y.cell? ⟨q,2,.none⟩=some (.int .i64 H)/\Y.cell? ⟨q,3,.none⟩=some (.int .i64 B)/\Y.cell? ⟨q,6,.none⟩=some (.int .i64 oa)))
  go_region_held3 (fun Y=>Y.cell? ⟨q,0,.none⟩=some (.int .i64 l)/\Y.cell? ⟨q,1,.none⟩=some (.int .i64 F)/\Y.cell? ⟨q,2,.none⟩=some (.int .i64 H)/\Y.cell? ⟨q,3,.none⟩=some (.int .i64 B)/\Y.cell? ⟨q,6,.none⟩=some (.int .i64 oa))
   (first|exact hS _ hd|exact hS _ h1|exact hS _ (h1.alloc _))
   (first|(go_at_call 129;refine(L _).mono ?_;rintro r S ⟨q1,rfl,V,C,m⟩;have h1:=hd.below m))
  go_wp2_with fail;go_returns;exact p w.drew S q1 bd V C m
 case inr.inr.inl=>
  subst U;clear J L N o p z;go_in;go_upto_region 7 with fail;have hd:=h.drew;have bd:Below w.heap.size w w.drew:=br.drew;clear R I h;have R:q<w.drew.heap.size:=hd.lt;have hS:=hd' (fun (Y:World) (b:aA Y q #[l,F,H,B,O,.int .i64 3,oa,on,jv,i,kt,some sp,ks] 161)=>(⟨b.cell 0,b.cell 1,b.cell 2,b.cell 3,b.cell 4,b.cell 6,b.cell 7⟩:Y.cell? ⟨q,0,.none⟩=some (.int .i64 l)/\Y.cell? ⟨q,1,.none⟩=some (.int .i64 F)/\Y.cell? ⟨q,2,.none⟩=some (.int .i64 H)/\Y.cell? ⟨q,3,.none⟩=some (.int .i64 B)/\Y.cell? ⟨q,4,.none⟩=some (.int .i64 O)/\Y.cell? ⟨q,6,.none⟩=some (.int .i64 oa)/\Y.cell? ⟨q,7,.none⟩=some (.int .i64 on)))
  go_region_held3 (fun Y=>Y.cell? ⟨q,0,.none⟩=some (.int .i64 l)/\Y.cell? ⟨q,1,.none⟩=some (.int .i64 F)/\Y.cell? ⟨q,2,.none⟩=some (.int .i64 H)/\Y.cell? ⟨q,3,.none⟩=some (.int .i64 B)/\Y.cell? ⟨q,4,.none⟩=some (.int .i64 O)/\Y.cell? ⟨q,6,.none⟩=some (.int .i64 oa)/\Y.cell? ⟨q,7,.none⟩=some (.int .i64 on))
   (first|exact hS _ hd|exact hS _ h1|exact hS _ (h1.alloc _))
   (first|(go_at_call 130;refine(M _).mono ?_;rintro r S ⟨q1,rfl,C,m⟩;have h1:=hd.below m))
  go_wp2_with fail;go_returns;exact y w.drew S q1 bd C m
 case inr.inr.inr=>
  subst U;clear J L M o p y;go_in;go_upto_region 8 with fail;have hd:=h.drew;have bd:Below w.heap.size w w.drew:=br.drew;clear R I h;have R:q<w.drew.heap.size:=hd.lt;have hS:=hd' (fun (Y:World) (b:aA Y q #[l,F,H,B,O,.int .i64 4,oa,on,jv,i,kt,some sp,ks] 161)=>(⟨b.cell 0,b.cell 1,b.cell 2,b.cell 3,b.cell 6⟩:Y.cell? ⟨q,0,.none⟩=some (.int .i64 l)/\Y.cell? ⟨q,1,.none⟩=some (.int .i64 F)/\Y.cell? ⟨q,2,.none⟩=some (.int .i64 H)/\Y.cell? ⟨q,3,.none⟩=some (.int .i64 B)/\Y.cell? ⟨q,6,.none⟩=some (.int .i64 oa)))
  go_region_held3 (fun Y=>Y.cell? ⟨q,0,.none⟩=some (.int .i64 l)/\Y.cell? ⟨q,1,.none⟩=some (.int .i64 F)/\Y.cell? ⟨q,2,.none⟩=some (.int .i64 H)/\Y.cell? ⟨q,3,.none⟩=some (.int .i64 B)/\Y.cell? ⟨q,6,.none⟩=some (.int .i64 oa))
   (first|exact hS _ hd|exact hS _ h1|exact hS _ (h1.alloc _))
   (first|(go_at_call 131;refine(N _).mono ?_;rintro r S ⟨q1,rfl,V,C,m⟩;have h1:=hd.below m))
  go_wp2_with fail;go_returns;exact z w.drew S q1 bd V C m
theorem uQ{c m C M:Int}(hc:0<=c/\c<=C)(b:0<=m/\m<=M):0<=c*m/\c*m<=C*M:=by
 refine⟨Int.mul_nonneg hc.1 b.1,?_⟩;exact Int.le_trans (Int.mul_le_mul_of_nonneg_right hc.2 b.1) (Int.mul_le_mul_of_nonneg_left b.2 (by omega))
theorem uV{s:Sh}(h:mayB s.p s.c s.m=true):oB s.p s.c s.m=s.c+s.p+s.p*16+s.c*s.m/\18<=oB s.p s.c s.m/\oB s.p s.c s.m<=1196:=by
 have hb:=LA.1 h;have b:=uQ (c:=s.c) (m:=s.m) (C:=12) (M:=8) (by omega) (by omega);have:oB s.p s.c s.m=s.c+s.p+s.p*16+s.c*s.m:=by unfold oB;rw[jP h]
 omega
theorem zv0(s:Sh)(w:World):
  Calls Tryz.prog 72 #[.agg #[s.p,s.c,s.m]] w fun e w'=>e= .returned (.int .i64 (oB s.p s.c s.m))/\Below w.heap.size w w':=by
 obtain⟨p,c,m⟩:=s;dsimp only;by_cases h1:mayB p c m=true
 ·have hb:=LA.1 h1;have n:=uQ (c:=c) (m:=m) (C:=12) (M:=8) (by omega) (by omega);have j:oB p c m=c+p+p*16+c*m:=by unfold oB;rw[jP h1]
  have l:=wrp (c+p);have o:=wrp (16*p);have q:=wrp (c+p+16*p);have r:=wrp (c*m);have t:=wrp (c+p+16*p+c*m);have b:=fun W=>UG p c m W;rw[h1]at b;replace b:=hd' b;rw[show oB p c m=c+p+16*p+c*m by omega];clear j n hb h1;go_in;go_wp2_with (go_at_call 21;refine(b _).mono ?_;rintro e l ⟨rfl,rfl⟩);go_ret;exact⟨rfl,by go_grown⟩
 have i:mayB p c m=false:=by simpa using h1
 have j:oB p c m=0:=by unfold oB;rw[jN h1]
 have b:=fun W=>UG p c m W;rw[i]at b;replace b:=hd' b;rw[j];clear h1 i j;go_in;go_wp2_with (go_at_call 21;refine(b _).mono ?_;rintro e l ⟨rfl,rfl⟩);go_ret;exact⟨rfl,by go_grown⟩
end

end Go.Proofs.YtkilokkopbajkaaGreat
