/- Texts bound together: TelJ CliT GrdW CliU CliV. -/
import Derived.Defers

import Derived.Recover

import Derived.Test.YtkbddndcegpllaaGreatBg32

set_option linter.all false
set_option maxHeartbeats 4000000
set_option maxRecDepth 100000
namespace Go.Proofs.YtkbddndcegpllaaGreat

section

open Go.RowKit

attribute [local go_sem ↓] Go.wp_at_zero Go.wp_at_succ

def yhk (c a:Int) (g t:Bool):List Ev:=if g=true/\t=false then [zbw c a] else []
def yhp (c:Int):Option Blk->List Ev
 | some b=> [zb5 c b.at' b.len]
 | none=> []
theorem yhr{q sp:Nat}{s:Sh}{k:Kl}{sl:Value}{most:Int}{fs:List Fr}{T:TypeId}{x:Value}{fg fd ft fe:FuncId}{rg rd rt re:Value}{er:Int}{dn:Bool}{tk:Option Blk}{J:World->Prop}{gv:Bool}{w:World}(hk:∀ b,tk=some b->(0<=b.page/\b.page<=64)/\(b.large=false->0<=b.slot/\b.slot<=16)/\(0<=b.pages/\b.pages<=64))(h:zaa w q (zat s k false (.iface T x) (.pointer (some ⟨sp,0,.none⟩))) 178)(hs:SK 0 w sp sl most fs)(e6:¬ foot sp sl q)(hJ:J w)(U:∀ Y Y',J Y->Only (fun b=>b=q\/w.heap.size<=b) Y Y'->J Y')
  (m1:∀ W:World,(method (Tryz.prog.types.size+Made.depth) T x "allotment/client.gave").run Tryz.prog W= .ok (fg,rg) W) (m2:∀ W:World,(method (Tryz.prog.types.size+Made.depth) T x "Done").run Tryz.prog W= .ok (fd,rd) W)
  (f1:∀ W:World,(callFunc fg #[rg]).run Tryz.prog W= .ok (.enter fg #[rg]) W) (f2:∀ W:World,(callFunc fd #[rd]).run Tryz.prog W= .ok (.enter fd #[rd]) W)
  (m3:∀ W:World,(method (Tryz.prog.types.size+Made.depth) T x "allotment/client.took").run Tryz.prog W= .ok (ft,rt) W) (m4:∀ W:World,(method (Tryz.prog.types.size+Made.depth) T x "allotment/client.err").run Tryz.prog W= .ok (fe,re) W)
  (f3:∀ W:World,(callFunc ft #[rt]).run Tryz.prog W= .ok (.enter ft #[rt]) W) (f4:∀ W:World,(callFunc fe #[re]).run Tryz.prog W= .ok (.enter fe #[re]) W)
  (c3:∀ Y,J Y->Calls Tryz.prog ft #[rt] Y fun e w'=>e= .returned (gotV tk)/\Below Y.heap.size Y w') (c4:∀ Y,J Y->Calls Tryz.prog fe #[re] Y fun e w'=>e= .returned (.int .i64 er)/\Below Y.heap.size Y w')
  (c1:∀ Y,J Y->Calls Tryz.prog fg #[rg] Y fun e w'=>e= .returned (.bool gv)/\Below Y.heap.size Y w') (c2:∀ Y,J Y->Calls Tryz.prog fd #[rd] Y fun e w'=>e= .returned (.bool dn)/\Below Y.heap.size Y w'):
  Calls Tryz.prog 146 #[.pointer (some ⟨q,0,.none⟩)] w fun r w'=>zbp q sp s {k with told:=k.told||gv} dn (.iface T x) sl most fs (yhk k.c k.op.a gv k.told++if dn=true then yhp k.c tk++[zaf k.c k.op (zb1 tk) er] else []) w w' r:=by
 obtain⟨i0,ca,cd,cf,cg⟩:=info_parts zdb;obtain⟨Z,sc,sm⟩:=s;obtain⟨n,kf,⟨ok,oa,on⟩,kj,I,ks⟩:=k;dsimp only[zat]at h ⊢;simp[go_sem]at m1 m2 m3 m4;replace c1:=hd' (c1 w hJ);replace c2:=hd' c2;replace c3:=hd' c3;replace c4:=hd' c4;have G:=hd' (fun Y Y' (hY:J Y) (hb:Below Y.heap.size Y Y')=>U Y Y' hY ((Only.of_below (F:=fun _=>False) hb).weak (fun _ e=>e.elim)));replace U:=hd' U;have ch:q<w.heap.size:=h.lt;have lst:∀ b,foot sp sl b->b<w.heap.size:=fun b hb=>by rcases hb with rfl|hb;exact hs.lt;exact(hs.zem b hb).2
 have lq:q<w.heap.size:=h.lt;have x8:=ce (.iface T x) (h.cell 8);have R:=ce (.bool I) (h.cell 10);go_in;go_upto_region 2 with fail;go_cut [18] (fun f0 L=>f0= .bool (gv && !I)/\zaa L q #[.int .i64 Z,.int .i64 sc,.int .i64 sm,.int .i64 n,.int .i64 kf,.int .i64 ok,.int .i64 oa,.int .i64 on,.iface T x,.bool false,.bool I,.pointer (some ⟨sp,0,.none⟩),.int .i64 ks] 178/\SK 0 L sp sl most fs/\J L/\Below w.heap.size w L);case first=>
  cases gv<;>cases I
  ·go_wp2_with ((with_reducible refine c1.out.mono ?_);rintro r w1 ⟨rfl,j⟩;have z8:=zai j _ _ _ x8;have ck:=zai j _ _ _ R);go_meet;exact⟨rfl,h.below j,hs.below j,G.out _ _ hJ j,j⟩
  ·go_wp2_with ((with_reducible refine c1.out.mono ?_);rintro r w1 ⟨rfl,j⟩;have z8:=zai j _ _ _ x8;have ck:=zai j _ _ _ R);go_meet;exact⟨rfl,h.below j,hs.below j,G.out _ _ hJ j,j⟩
  ·go_wp2_with ((with_reducible refine c1.out.mono ?_);rintro r w1 ⟨rfl,j⟩;have z8:=zai j _ _ _ x8;have ck:=zai j _ _ _ R);go_meet;exact⟨rfl,h.below j,hs.below j,G.out _ _ hJ j,j⟩
  go_wp2_with ((with_reducible refine c1.out.mono ?_);rintro r w1 ⟨rfl,j⟩;have z8:=zai j _ _ _ x8;have ck:=zai j _ _ _ R);go_meet;exact⟨rfl,h.below j,hs.below j,G.out _ _ hJ j,j⟩
 case rest=>
  obtain⟨rfl,h1,b3,b1,j⟩:=hcut;obtain⟨V,rfl⟩:∃ V:World,V=wc:=⟨_,rfl⟩;have b4:Only (fun b=>b=q\/foot sp sl b) w V:=Only.of_below j;clear h hs hJ x8 R lq c1;have fc:=h1.lt;have ec:=zax h1;have R:=ce (.bool I) (h1.cell 10);go_upto_if 18 with fail;go_cut [3] (fun v3 L=>zaa L q #[.int .i64 Z,.int .i64 sc,.int .i64 sm,.int .i64 n,.int .i64 kf,.int .i64 ok,.int .i64 oa,.int .i64 on,.iface T x,.bool false,.bool (I||gv),.pointer (some ⟨sp,0,.none⟩),.int .i64 ks] 178/\SK 0 L sp sl most fs/\J L/\Only (fun b=>b=q\/foot sp sl b) w L/\L.ownsRow w.heap.size 66 8 v3 (yhk n oa gv I).length ((yhk n oa gv I).flatMap fun e=>e.cells.toList));case first=>
   cases gv<;>cases I
   ·simp only[Bool.false_and,Bool.true_and,Bool.not_true,Bool.not_false];go_wp2;go_meet;exact⟨h1,b3,b1,b4,zel _ _⟩
   ·simp only[Bool.false_and,Bool.true_and,Bool.not_true,Bool.not_false];go_wp2;go_meet;exact⟨h1,b3,b1,b4,zel _ _⟩
   ·simp only[Bool.false_and,Bool.true_and,Bool.not_true,Bool.not_false];go_upto_region 4 with fail;have h2:=h1.set 10 (.bool true);have oq:Only (fun b=>b=q) V (V.setCell ⟨q,10,.none⟩ (.bool true)):=Only.setCell (F:=fun b=>b=q) (Only.refl _ _) (.inl rfl) _;have ep:=oq.stk b3 (fun b hb e=>e6 (e ▸ hb));have ei:=U.out _ _ b1 (oq.weak (fun b e=>.inl e));have e8:=b4.trans oq (fun b _ hb=>.inl hb);replace h2:=h2.cast (cs':= #[.int .i64 Z,.int .i64 sc,.int .i64 sm,.int .i64 n,.int .i64 kf,.int .i64 ok,.int .i64 oa,.int .i64 on,.iface T x,.bool false,.bool true,.pointer (some ⟨sp,0,.none⟩),.int .i64 ks]) rfl;generalize V.setCell ⟨q,10,.none⟩ (.bool true)=w2 at *;clear h1 b3 b1 b4 R oq ec;have el:=e8.size;have lq:q<w2.heap.size:=h2.lt;have d3:=ci n (h2.cell 3);have d6:=ci oa (h2.cell 6);go_wp2_with fail
    go_region_law
     (first|(refine zbg (by rfl) (.tmp 22) (.tmp 33) 63 (by rfl) w.heap.size 66 i0 _ 8 64 Tryz.underlying63 ca cd cf cg rfl (by omega) _ 0 [] (by rfl) (zel _ _) _ 1 (zbw n oa).cells.toList (by rfl) (RdS.drew (evRd (zbw n oa) w2)) (zfo _) (by simp only[maxLen];omega) (by omega) (by simp;omega) ?_;intro v3 w3 l b9 f8;have b7:=zaw ((Below.refl w.heap.size w2).alloc el (.cells (zbw n oa).cells 66)).drew (zel w.heap.size _) (by simp;omega) b9))
    all_goals rw[Nat.zero_add,List.nil_append]at l;go_wp2;go_meet;exact⟨h2.belB b7 ch,(zdy b7).stk ep (fun b hb e=>by have:=lst b hb;omega),U.out _ _ ei ((zdy b7).weak (fun b e=>.inr e)),zfp e8 b7,l⟩
   simp only[Bool.false_and,Bool.true_and,Bool.not_true,Bool.not_false];go_wp2;go_meet;exact⟨h1,b3,b1,b4,zel _ _⟩
  case rest=>
   obtain⟨h3,cb,c6,bc,l⟩:=hcut
   have cr:=bc.size
   have ex:=h3.lt
   have y8:=ce (.iface T x) (h3.cell 8)
   have bx:=hd' (c2.out _ c6)
   obtain⟨V3,rfl⟩:∃ V:World,V=wc:=⟨_,rfl⟩
   cases dn with
   |false=>
    go_wp2_with ((with_reducible refine bx.out.mono ?_);rintro r w4 ⟨rfl,m⟩;have y9:=zai m _ _ _ y8)
    go_returns
    refine⟨⟨_,rfl,?_⟩,h3.below m,cb.below m,bc.tb m⟩
    have:=zav l m
    simpa using this
   |true=>
    have cz:(yhk n oa gv I).length<=1:=by unfold yhk;split<;>simp
    obtain⟨f6,f5,rfl,_,_,_⟩:=RdS.zew l
    go_upto_region 8 with((with_reducible refine bx.out.mono ?_);rintro r w4 ⟨rfl,m⟩;have y9:=zai m _ _ _ y8)
    have h4:=h3.below m
    have e7:=cb.below m
    have c7:=G.out _ _ c6 m
    have e9:=bc.tb m
    have N:=zav l m
    clear h3 cb c6 bc l cr ex y8 bx y9 c2 m
    have ey:q<w4.heap.size:=h4.lt
    have y8:=ce (.iface T x) (h4.cell 8)
    obtain⟨bl,bp,bs,o,bn,bj,cq⟩:∃ bl bp bs o bn,gotV tk= .tuple #[.agg #[.bool bl,.int .i64 bp,.int .i64 bs,.int .i64 o,.int .i64 bn],.bool tk.isSome]/\∀ b,tk=some b->b=⟨bl,bp,bs,o,bn⟩:=by
     cases tk with
     |none=>exact⟨_,_,_,_,_,rfl,fun b e=>by cases e⟩
     |some b=>exact⟨_,_,_,_,_,rfl,fun b' e=>by injection e with e;subst e;rfl⟩
    have b0:=c3.out w4 c7
    rw[bj]at b0
    replace b0:=hd' b0
    clear bj
    go_upto_if 50 with((with_reducible refine b0.out.mono ?_);rintro r w5 ⟨rfl,b8⟩)
    have X:=b8.trans ((Below.refl w4.heap.size w5).alloc b8.size (.cells #[.bool bl,.int .i64 bp,.int .i64 bs,.int .i64 o,.int .i64 bn] 264))
    have B:zaa (w5.alloc (.cells #[.bool bl,.int .i64 bp,.int .i64 bs,.int .i64 o,.int .i64 bn] 264)) w5.heap.size #[.bool bl,.int .i64 bp,.int .i64 bs,.int .i64 o,.int .i64 bn] 264:=heap_alloc_new _ _
    generalize w5.alloc (.cells #[.bool bl,.int .i64 bp,.int .i64 bs,.int .i64 o,.int .i64 bn] 264)=w6 at *
    obtain⟨E,eh,bi⟩:=hidv w5.heap.size
    rw[<-bi]at B ⊢
    clear bi
    have f7:w4.heap.size<=E:=by have:=b8.size;have:=eh.out;omega
    have e5:∀ b,Value.ownBlock (.slice f6 (yhk n oa gv I).length f5)=some b->b<w4.heap.size:=fun b hb=>(N.lt b hb).2
    have h6:=h4.below X
    have bb:=e7.below X
    have b6:=G.out _ _ c7 X
    have bf:=e9.tb X
    have C:=zav N X
    clear h4 e7 c7 e9 N ey y8 b0 c3 b8 X
    obtain⟨M,S⟩:∃ M,Hid (M=yhk n oa gv I++yhp n tk):=⟨_,hd' rfl⟩
    go_cut [3,4] (fun v3 v4 L=>v4= .int .i64 (zb1 tk)/\zaa L q #[.int .i64 Z,.int .i64 sc,.int .i64 sm,.int .i64 n,.int .i64 kf,.int .i64 ok,.int .i64 oa,.int .i64 on,.iface T x,.bool false,.bool (I||gv),.pointer (some ⟨sp,0,.none⟩),.int .i64 ks] 178/\SK 0 L sp sl most fs/\J L/\Only (fun b=>b=q\/foot sp sl b) w L/\L.ownsRow w.heap.size 66 8 v3 M.length (M.flatMap fun e=>e.cells.toList))
    case first=>
     cases tk with
     |none=>
      have e2:M=yhk n oa gv I:=by rw[S.out];simp[yhp]
      simp only[Option.isSome_none]
      go_wp2
      go_meet
      exact⟨rfl,h6,bb,b6,bf,by rw[e2];exact C⟩
     |some bk=>
      have e2:=S.out
      simp only[yhp,zb1]at e2 ⊢
      obtain⟨cv,cx,cy⟩:=hk bk rfl
      have bz:=hd' (fun W=>zjy bk W cv cx)
      have c5:=hd' (fun W=>zih bk W cy)
      clear hk cv cx cy
      have ev:Hid (zb1 (some bk)=bk.at'):=hd' rfl
      generalize bk.at'=bu at *
      generalize bk.len=bw at *
      have ek:=cq bk rfl
      subst ek
      dsimp only at bz c5
      simp only[Option.isSome_some]
      have e0:=ce (.bool bl) (B.cell 0)
      have e1:=ci bp (B.cell 1)
      have eb:=ci bs (B.cell 2)
      have e3:=ci o (B.cell 3)
      have e4:=ci bn (B.cell 4)
      have ew:=B.lt
      have cl:=hd' (bz.out w6)
      go_upto_region 11 with(go_at_call 170;(with_reducible refine cl.out.mono ?_);rintro r w7 ⟨rfl,p⟩)
      have h7:=h6.below p
      have cc:=bb.below p
      have c8:=G.out _ _ b6 p
      have bg:=bf.tb p
      have D:=zav C p
      have ef:=B.below p
      clear h6 bb b6 bf C B e0 e1 eb e3 e4 ew cl bz p
      have f9:=bg.size
      have c9:=h7.drew
      have bq:=ef.drew
      have fi:q<w7.drew.heap.size:=c9.lt
      have fb:E<w7.drew.heap.size:=bq.lt
      have hS:=hd' (fun (Y:World) (hr:zaa Y q #[.int .i64 Z,.int .i64 sc,.int .i64 sm,.int .i64 n,.int .i64 kf,.int .i64 ok,.int .i64 oa,.int .i64 on,.iface T x,.bool false,.bool (I||gv),.pointer (some ⟨sp,0,.none⟩),.int .i64 ks] 178) (hB:zaa Y E #[.bool bl,.int .i64 bp,.int .i64 bs,.int .i64 o,.int .i64 bn] 264)=>(⟨hr.cell 3,hB.cell 0,hB.cell 1,hB.cell 2,hB.cell 3,hB.cell 4⟩:Y.cell? ⟨q,3,.none⟩=some (.int .i64 n)/\Y.cell? ⟨E,0,.none⟩=some (.bool bl)/\Y.cell? ⟨E,1,.none⟩=some (.int .i64 bp)/\Y.cell? ⟨E,2,.none⟩=some (.int .i64 bs)/\Y.cell? ⟨E,3,.none⟩=some (.int .i64 o)/\Y.cell? ⟨E,4,.none⟩=some (.int .i64 bn)))
      have ed:=hd' (fun W=>c5.out W)
      clear c5
      have ba:=zav D br.drew
      go_region_held3 (fun Y=>Y.cell? ⟨q,3,.none⟩=some (.int .i64 n)/\Y.cell? ⟨E,0,.none⟩=some (.bool bl)/\Y.cell? ⟨E,1,.none⟩=some (.int .i64 bp)/\Y.cell? ⟨E,2,.none⟩=some (.int .i64 bs)/\Y.cell? ⟨E,3,.none⟩=some (.int .i64 o)/\Y.cell? ⟨E,4,.none⟩=some (.int .i64 bn))
       (first|exact hS.out _ c9 bq|exact hS.out _ h8 b5|exact hS.out _ (h8.alloc _) (b5.alloc _)|exact hS.out _ h9 eg)
       (first|(go_at_call 171;(with_reducible refine(ed.out _).mono ?_);rintro r w8 ⟨rfl,b2⟩;have h8:=c9.below b2;have b5:=bq.below b2;have fa:w7.heap.size<=w8.heap.size:=b2.size;have z:=zav ba b2)|(refine zbg (by rfl) (.tmp 53) (.tmp 62) 63 (by rfl) w.heap.size 66 i0 _ 8 64 Tryz.underlying63 ca cd cf cg rfl (by omega) _ (yhk n oa gv I).length _ (by rfl) (zav z (br.alloc lr _)) _ 1 (zb5 n bu bw).cells.toList (by rfl) (evRd (zb5 n bu bw) _) (zfo _) (by simp only[maxLen];omega) (by omega) (by simp;omega) ?_;intro v9 w9 O y cp;have H:=zaw ((Below.refl w.heap.size w8).alloc (by omega) (.cells (zb5 n bu bw).cells 66)) (zav z (br.alloc lr _)) (by simp;omega) y;have h9:=h8.belB H ch;have eg:zaa w9 E #[.bool bl,.int .i64 bp,.int .i64 bs,.int .i64 o,.int .i64 bn] 264:=(y.block E (by have:=b5.lt;simp;omega) (fun e=>by have:=e5 E e.symm;omega)).trans (b5.alloc _)))
      have bv:Below w7.heap.size w7 w8:=zab br.drew b2
      have eu:=(zdy H).stk (cc.below bv) (fun b hb e=>by have:=lst b hb;omega)
      have ej:=U.out _ _ (G.out _ _ c8 bv) ((zdy H).weak (fun b e=>.inr e))
      have ez:=zfp (bg.tb bv) H
      go_wp2
      go_meet
      refine⟨by rw[ev.out],h9,eu,ej,ez,?_⟩
      rw[e2,List.length_append,List.flatMap_append,List.flatMap_cons,List.flatMap_nil,List.append_nil]
      exact O
    case rest=>
     obtain⟨rfl,h7,cc,c8,bm,D⟩:=hcut
     obtain⟨V7,rfl⟩:∃ V:World,V=wc:=⟨_,rfl⟩
     have em:M.length<=2:=by
      rw[S.out,List.length_append]
      have:(yhp n tk).length<=1:=by unfold yhp;split<;>simp
      omega
     clear h6 bb b6 bf C B e5 cz
     obtain⟨fk,fj,rfl,_,_,_⟩:=RdS.zew D
     have cs:=bm.size
     have fh:=h7.lt
     have y8:=ce (.iface T x) (h7.cell 8)
     have ea:=hd' (c4.out _ c8)
     have bh:=hd' (fun Y (hY:Below V7.heap.size V7 Y)=>zbn (s:=⟨Z,sc,sm⟩) (k:=⟨n,kf,⟨ok,oa,on⟩,kj,I||gv,ks⟩) (i:=false) (jv:= .iface T x) er (zb1 tk) (h7.below hY) (cc.below hY) e6)
     dsimp only[zat,Ev.val,Ev.cells,zaf]at bh
     have cm:∀ b,w.heap.size<=b->¬ (b=q\/foot sp sl b):=fun b hb e=>by rcases e with rfl|e;omega;have:=lst b e;omega
     go_wp2_with (first|(go_at_call 114;(with_reducible refine(bh.out _ p).mono ?_);rintro r w8 ⟨rfl,h8,es,cj⟩;have z:=zkk (zav D p) cj cm;have cu:w.heap.size<=w8.heap.size:=(Nat.le_trans cs (Nat.le_trans p.size cj.size)))|(refine zay rfl (.tmp 64) (.tmp 73) 63 rfl w.heap.size 66 i0 _ 8 64 Tryz.underlying63 ca cd cf cg rfl (by omega) _ M.length _ rfl (zav z (br.alloc lr _)) _ 1 (zaf n ⟨ok,oa,on⟩ (zb1 tk) er).cells.toList rfl (evRd (zaf n ⟨ok,oa,on⟩ (zb1 tk) er) _) (zfo _) (by simp only[maxLen];omega) (by omega) (by simp;omega) ?_;intro v9 w9 O y cp;have H:=zaw ((Below.refl w.heap.size w8).alloc cu (.cells (zaf n ⟨ok,oa,on⟩ (zb1 tk) er).cells 66)) (zav z (br.alloc lr _)) (by simp;omega) y)|((with_reducible refine ea.out.mono ?_);rintro r w7 ⟨rfl,p⟩))
     go_returns
     have bg:=(bm.tb p).trans cj (fun _ _ e=>e)
     refine⟨⟨_,rfl,?_⟩,h8.belB H ch,(zdy H).stk es (fun b hb e=>by rcases hb with rfl|hb;have:=lst b (.inl rfl);omega;cases hb),zfp bg H⟩
     rw[<-List.append_assoc,<- S.out,List.length_append,List.flatMap_append,List.flatMap_cons,List.flatMap_nil,List.append_nil]
     exact O
end

section

open Go.RowKit

def JbO (F:Nat->Prop) (w:World) (v:Value) (s:Sh) (cl:Int):Jb->Prop
 | .mal r c=> ∃ q,v= .iface 229 (.pointer (some ⟨q,0,.none⟩))/\MalO F w q s cl r c
 | .fre f=> ∃ q,v= .iface 238 (.agg #[.pointer (some ⟨q,0,.none⟩)])/\FeO F w q s f
 | .aga t=> ∃ q,v= .iface 242 (.agg #[.pointer (some ⟨q,0,.none⟩)])/\RrO F w q s t
 | .hei a=> ∃ q,v= .iface 246 (.agg #[.pointer (some ⟨q,0,.none⟩)])/\AdO F w q s a
theorem JbO.only{F G:Nat->Prop}{w w':World}{v:Value}{s:Sh}{cl:Int}{j:Jb}(h:JbO F w v s cl j)(b:Only G w w')(hd:∀ k,F k->¬ G k):JbO F w' v s cl j:=by
 cases j with
 |mal r c=>obtain⟨q,e,h⟩:=h;exact⟨q,e,h.only b hd⟩
 |fre f=>obtain⟨q,e,h⟩:=h;exact⟨q,e,h.only b hd⟩
 |aga t=>obtain⟨q,e,h⟩:=h;exact⟨q,e,h.only b hd⟩
 |hei a=>obtain⟨q,e,h⟩:=h;exact⟨q,e,h.only b hd⟩
theorem JbO.below{F:Nat->Prop}{w w':World}{v:Value}{s:Sh}{cl:Int}{j:Jb}(h:JbO F w v s cl j)(hb:Below w.heap.size w w'):JbO F w' v s cl j:=h.only (Only.of_below (F:=fun _=>False) hb) (fun _ _ e=>e)
theorem yad{s:Sh}{cl:Int}{b:Blk}(h:b.fits s cl=true)(m:s.p<=64)(j:b.large=false->b.pages=0):(0<=b.page/\b.page<=64)/\(b.large=false->0<=b.slot/\b.slot<=16)/\(0<=b.pages/\b.pages<=64):=by
 have i:=zdi.1 h;refine⟨by omega,fun f=>?_,?_⟩
 ·have l:=i.2.2.2.2 f;have:=zb4 (by omega:0<zah b.k);omega
 cases f:b.large
 ·rw[j f];omega
 have:=i.2.2.2.1 f;omega
theorem zrh{t:Rs}{b:Blk}(f:t.got=some b):b.large=false->b.pages=0:=by
 intro i;obtain⟨k,pg,sk,rn⟩:=t;rcases sk with _|x
 ·rcases rn with _|y
  ·cases f
  unfold Rs.got at f;dsimp only at f;split at f
  ·injection f with f;subst f;cases i
  cases f
 unfold Rs.got at f;dsimp only at f;split at f
 ·injection f with f;subst f;rfl
 cases f
theorem z3z{s:Sh}{cl:Int}{j:Jb}{b:Blk}(h:jbIs s cl j)(n:mayB s.p s.c s.m=true)(hc:0<=cl/\cl<s.c)(l:j.took=some b):b.fits s cl=true/\(b.large=false->b.pages=0):=by
 cases j with
 |mal r c=>
  have i:(if zck c=true then r.got else none)=some b:=l;split at i
  ·exact⟨(zlb h.1 n hc i).1,zrh i⟩
  cases i
 |fre f=>cases l;|aga t=>
  have i:(if t.done=true/\t.err=0 then(match t.res with|some x=>x.got|none=>none) else none)=some b:=l;split at i
  ·rcases hr:t.res with _|r
   ·rw[hr]at i;cases i
   rw[hr]at i;exact⟨(zlb (h.res r hr) n hc i).1,zrh i⟩
  cases i
 |hei a=>cases l
theorem z6y{q sp:Nat}{G:Nat->Prop}{s:Sh}{k:Kl}{jv sl:Value}{most:Int}{fs:List Fr}{j:Jb}{w:World}(h:zaa w q (zat s k false jv (.pointer (some ⟨sp,0,.none⟩))) 178)(hs:SK 0 w sp sl most fs)(C:¬ foot sp sl q)(n:JbO G w jv s k.c j)(N:∀ b,G b->b≠q/\¬ foot sp sl b)(F:∀ b,G b->b<w.heap.size)
  (H:jbIs s k.c j) (I:mayB s.p s.c s.m=true) (hc:0<=k.c/\k.c<s.c):
  Calls Tryz.prog 146 #[.pointer (some ⟨q,0,.none⟩)] w fun r w'=>zbp q sp s {k with told:=k.told||j.gave} j.done jv sl most fs (k.tells j) w w' r:=by
 have hb:=zar.1 I;have B:=fun b L=>yad (z3z H I hc (b:=b) L).1 (by omega) (z3z H I hc L).2;have z:∀ Y o,JbO G Y jv s k.c j->Only (fun b=>b=q\/w.heap.size<=b) Y o->JbO G o jv s k.c j:=fun Y o y O=>y.only O fun b l e=>by
  rcases e with e|e
  ·exact(N b l).1 e
  have:=F b l;omega
 have M:k.tells j=yhk k.c k.op.a j.gave k.told++if j.done=true then yhp k.c j.took++[zaf k.c k.op (zb1 j.took) j.err] else []:=by unfold Kl.tells yhk yhp;cases j.gave<;>cases j.done<;>cases k.told<;>cases j.took<;>simp
 rw[M];cases j with
 |mal r c=>
  obtain⟨q1,rfl,n⟩:=n
  exact yhr (J:=fun Y=>MalO G Y q1 s k.c r c) B h hs C n (fun Y o y l=>by obtain⟨q2,e,D⟩:=z Y o ⟨q1,rfl,y⟩ l;cases e;exact D)
   (fun _=>by kernel_rfl) (fun _=>by kernel_rfl) (fun _=>by kernel_rfl) (fun _=>by kernel_rfl) (fun _=>by kernel_rfl) (fun _=>by kernel_rfl) (fun _=>by kernel_rfl) (fun _=>by kernel_rfl)
   (fun Y i=>zrs i) (fun Y i=>zv7 i) (fun Y i=>zno i) (fun Y i=>zm2 i)
 |fre f=>
  obtain⟨q1,rfl,n⟩:=n
  exact yhr (J:=fun Y=>FeO G Y q1 s f) B h hs C n (fun Y o y l=>by obtain⟨q2,e,D⟩:=z Y o ⟨q1,rfl,y⟩ l;cases e;exact D)
   (fun _=>by kernel_rfl) (fun _=>by kernel_rfl) (fun _=>by kernel_rfl) (fun _=>by kernel_rfl) (fun _=>by kernel_rfl) (fun _=>by kernel_rfl) (fun _=>by kernel_rfl) (fun _=>by kernel_rfl)
   (fun Y i=>zm8 i) (fun Y i=>zqy i) (fun Y i=>zgh i) (fun Y i=>zf9 i)
 |aga t=>
  obtain⟨q1,rfl,n⟩:=n;have E:t.done=true->t.err=0->∃ r,t.res=some r:=fun y l=>by obtain⟨r,b,f,e,_⟩:=H.fin y l;exact⟨r,e⟩
  exact yhr (J:=fun Y=>RrO G Y q1 s t) B h hs C n (fun Y o y l=>by obtain⟨q2,e,D⟩:=z Y o ⟨q1,rfl,y⟩ l;cases e;exact D)
   (fun _=>by kernel_rfl) (fun _=>by kernel_rfl) (fun _=>by kernel_rfl) (fun _=>by kernel_rfl) (fun _=>by kernel_rfl) (fun _=>by kernel_rfl) (fun _=>by kernel_rfl) (fun _=>by kernel_rfl)
   (fun Y i=>zgc E i) (fun Y i=>zii i) (fun Y i=>zd8 i) (fun Y i=>zd5 i)
 |hei a=>
  obtain⟨q1,rfl,n⟩:=n
  exact yhr (J:=fun Y=>AdO G Y q1 s a) B h hs C n (fun Y o y l=>by obtain⟨q2,e,D⟩:=z Y o ⟨q1,rfl,y⟩ l;cases e;exact D)
   (fun _=>by kernel_rfl) (fun _=>by kernel_rfl) (fun _=>by kernel_rfl) (fun _=>by kernel_rfl) (fun _=>by kernel_rfl) (fun _=>by kernel_rfl) (fun _=>by kernel_rfl) (fun _=>by kernel_rfl)
   (fun Y i=>z0p i) (fun Y i=>z8a i) (fun Y i=>zqz i) (fun Y i=>zti i)
end

section

open Go.RowKit

attribute [local go_sem ↓] Go.wp_at_zero Go.wp_at_succ

theorem zzf(p:Addr)(w:World):
  CallsD Tryz.prog 168 #[.pointer (some p)] .returning w fun e i w'=>e= .returned (.tuple #[])/\i= .returning/\w'=w:=by
 refine callsD_of_wpS Tryz.func168 rfl fun b cs hu=>?_;apply wpS_seq;apply wpS_region;simp[wpOpsS,go_sem,recoverD,hu,Tryz.ntmps168,Exit.thenS];refine wpS_cond (t:=false) (by simp[Act.eval,Array.replicate]) ?_;simp only[Bool.false_eq_true,if_false];refine wpS_of_wp (wp_skip ?_);cases b;simp_all [bodyPostS,results,Tryz.results168]
theorem zyf(B1 B2:Nat)(w:World){Q:World->Prop}
  (h:Calls Tryz.prog 144 #[.pointer (some ⟨B1,0,.none⟩),.pointer (some ⟨B2,0,.none⟩)] (w.alloc (.cells #[.bool false] 4)) fun e w'=>e= .returned (.tuple #[])/\Q w'/\zaa w' w.heap.size #[.bool false] 4):
  Calls Tryz.prog 143 #[.func (.func 144) #[] #[.pointer (some ⟨B1,0,.none⟩),.pointer (some ⟨B2,0,.none⟩)]] w fun e w'=>e= .returned (.bool true)/\∃ Y,Q Y/\w'=Y.setCell ⟨w.heap.size,0,.none⟩ (.bool true):=by
 have z:∀ (m:Fn) (first cap:Array Value) (w:World),(Instr.makeFunc m first cap).run Tryz.prog w= .ok (.func m first cap) w:=fun _ _ _ _=>rfl;replace h:=hd' h;go_enter_defers Tryz.func143,Tryz.ntmps143;have y:∀ W:World,(binOp .eql 1 (.func (.func 144) #[] #[.pointer (some ⟨B1,0,.none⟩),.pointer (some ⟨B2,0,.none⟩)]) .nilFunc).run Tryz.prog W= .ok (.bool false) W:=fun W=>by kernel_rfl
 go_upto_region 1 with fail;generalize s:w.alloc (.cells #[.bool false] 4)=X at *;obtain⟨E,p,b⟩:=hidv w.heap.size;simp only[<-b]at h ⊢;clear b s;go_wp2_with (go_at_call 144;(with_reducible refine h.out.mono ?_);rintro r o ⟨rfl,q,j⟩;have c0:=ce (.bool false) (j.cell 0);have C:=zax j);refine leaves_cons (f:=168) (args:= #[.pointer (some ⟨E,0,.none⟩)]) (by simp) (by simp[go_sem]) ?_;refine(zzf ⟨E,0,.none⟩ _).mono ?_;rintro e D B ⟨rfl,rfl,rfl⟩;have l:=j.set 0 (.bool true);have c1:=ce (.bool true) (l.cell 0);rw[<-p.out];generalize n:o.setCell ⟨E,0,.none⟩ (.bool true)=Z at *;have i:∃ Y,Q Y/\Z=Y.setCell ⟨E,0,.none⟩ (.bool true):=⟨o,q,n.symm⟩;clear n;simp[Leaves,settle,results,Tryz.results143,go_sem,c1];exact i
theorem z7m{s:Sh}{cl:Int}{r:Rs}{c:Option Cm}(h:jbIs s cl (.mal r c))(hd:(Jb.mal r c).done=false):r.done=false\/(r.done=true/\c=none/\∃ b,r.got=some b):=by
 have f:(r.done&&(!r.got.isSome||zck c))=false:=hd;cases hrd:r.done
 ·exact .inl rfl
 rw[hrd,Bool.true_and,Bool.or_eq_false_iff]at f;refine .inr ⟨rfl,?_,?_⟩
 ·rcases hc:c with _|x
  ·rfl
  have:=h.2 x hc;have i:=f.2;rw[hc]at i;have i:x.done=false:=i;rw[this.2.1]at i;cases i
 rcases hg:r.got with _|b
 ·have j:=f.1;rw[hg]at j;cases j
 exact⟨b,rfl⟩
structure zhl (G:Nat->Prop) (p b:Nat) (w w':World) (jv:Value) (s:Sh) (cl:Int) (j:Jb) (m:Mem):Prop where
 wds:zaq w' p b (j.step s cl m).2
 only:Only (fun k=> G k\/k=p\/k=b) w w'
 job:JbO (grow G w w') w' jv s cl (j.step s cl m).1
theorem yhq{q p B1 B2:Nat}{T:TypeId}{x r0:Value}{f:FuncId}{w:World}{Q:Ending->World->Prop}(m:w.cell? ⟨B1,0,.none⟩=some (.pointer (some ⟨q,0,.none⟩)))(n:w.cell? ⟨B2,0,.none⟩=some (.pointer (some ⟨p,0,.none⟩)))(s:B1<w.heap.size)(t:B2<w.heap.size)(y:q<w.heap.size)
  (o:w.cell? ⟨q,8,.none⟩=some (.iface T x)) (m1:∀ W:World,(method (Tryz.prog.types.size+Made.depth) T x "Step").run Tryz.prog W= .ok (f,r0) W) (f1:∀ W:World,(callFunc f #[r0,.pointer (some ⟨p,0,.none⟩)]).run Tryz.prog W= .ok (.enter f #[r0,.pointer (some ⟨p,0,.none⟩)]) W)
  (b:∀ Y,Below w.heap.size w Y->Calls Tryz.prog f #[r0,.pointer (some ⟨p,0,.none⟩)] Y fun e w'=>e= .returned (.tuple #[])/\Q e w'):
  Calls Tryz.prog 144 #[.pointer (some ⟨B1,0,.none⟩),.pointer (some ⟨B2,0,.none⟩)] w fun e w'=>e= .returned (.tuple #[])/\Q e w':=by
 replace b:=hd' b;simp[go_sem]at m1;go_in;go_wp2_with fail;refine zad 5 (by kernel_rfl) (by kernel_rfl) ?_;dsimp only[List.take,List.drop];repeat (go_big_quiet_step (fail))
 refine wpQuiet_nil ?_;rintro _ ⟨j,rfl⟩;have i:=j.below;generalize j.w=Z at *;change wpList _ _ _ _ _ Z;go_wp2_with ((with_reducible refine(b.out _ i).mono ?_);rintro r z ⟨rfl,l⟩);go_returns;exact⟨rfl,l⟩
theorem zh7{G:Nat->Prop}{w Y Z:World}(hb:Below w.heap.size w Y)(hs:Y.heap.size<=Z.heap.size):∀ k,grow G Y Z k->grow G w Z k:=fun k b=>b.imp id (fun h=>⟨Nat.le_trans hb.size h.1,h.2⟩)
theorem zhl.mk'{G:Nat->Prop}{p b:Nat}{w Y Z:World}{jv:Value}{s:Sh}{cl:Int}{j:Jb}{m:Mem}(hb:Below w.heap.size w Y)(f:zaq Z p b (j.step s cl m).2)(i:Only (fun k=>G k\/k=p\/k=b) Y Z)(l:JbO (grow G w Z) Z jv s cl (j.step s cl m).1):zhl G p b w Z jv s cl j m:=
 ⟨f,(Only.of_below (F:=fun k=>G k\/k=p\/k=b) hb).trans i (fun _ _ e=>e),l⟩
theorem z6s{G:Nat->Prop}{q p b B1 B2:Nat}{s:Sh}{cl:Int}{j:Jb}{m:Mem}{w:World}{jv:Value}(E:w.cell? ⟨B1,0,.none⟩=some (.pointer (some ⟨q,0,.none⟩)))(F:w.cell? ⟨B2,0,.none⟩=some (.pointer (some ⟨p,0,.none⟩)))(M:B1<w.heap.size)(N:B2<w.heap.size)(O:q<w.heap.size)
  (H:w.cell? ⟨q,8,.none⟩=some jv) (o:JbO G w jv s cl j) (B:∀ k,G k->k<w.heap.size) (L:zaq w p b m) (J:¬ G p) (hb:¬ G b) (I:Fits s m) (z:jbIs s cl j) (hd:j.done=false) (hs:m.st<1000000000):
  Calls Tryz.prog 144 #[.pointer (some ⟨B1,0,.none⟩),.pointer (some ⟨B2,0,.none⟩)] w fun e w'=>e= .returned (.tuple #[])/\zhl G p b w w' jv s cl j m:=by
 cases j with
 |mal r c=>
  obtain⟨q1,rfl,o⟩:=o;refine yhq E F M N O H (fun _=>by kernel_rfl) (fun _=>by kernel_rfl) (Q:=fun _ w'=>zhl G p b w w' _ s cl (.mal r c) m) fun Y i=>(zt8 (o.below i) (L.below i) J hb I ⟨fun x y=>(z.1.sk x y).1.ok,fun x y=>(z.1.rn x y).ok⟩ hs (z7m z hd)).mono fun e w' hS=>?_;obtain⟨n,r',c',Z,C⟩:=hS;refine⟨n.ret,.mk' i n.wds n.only ?_⟩;rw[Z];obtain⟨a1,R,T,x2,U,D,V,X,S⟩:=C;refine⟨q1,rfl,fun k l=>?_,zh7 i n.only.size _ R,T,x2,U,fun k l=>⟨zh7 i n.only.size _ (D k l).1,(D k l).2⟩,V,X,fun x y=>⟨⟨zh7 i n.only.size _ (S x y).1.1,(S x y).1.2⟩,(S x y).2⟩⟩;rcases l with l|l
  ·exact Nat.lt_of_lt_of_le (B k l) (Nat.le_trans i.size n.only.size)
  exact l.2
 |fre f=>obtain⟨q1,rfl,o⟩:=o;refine yhq E F M N O H (fun _=>by kernel_rfl) (fun _=>by kernel_rfl) (Q:=fun _ w'=>zhl G p b w w' _ s cl (.fre f) m) fun Y i=>(zw0 (o.below i) (L.below i) J hb I z.ok hs).mono fun e w' hS=>?_;obtain⟨n,C⟩:=hS;refine⟨n.ret,.mk' i n.wds n.only ?_⟩;obtain⟨a1,T,R,D⟩:=C;exact⟨q1,rfl,zh7 i n.only.size _ a1,T,R,fun h=>zh7 i n.only.size _ (D h)⟩
 |aga t=>
  obtain⟨q1,rfl,o⟩:=o;refine yhq E F M N O H (fun _=>by kernel_rfl) (fun _=>by kernel_rfl) (Q:=fun _ w'=>zhl G p b w w' _ s cl (.aga t) m) fun Y i=>(zza (o.below i) (L.below i) J hb I z.ok hs).mono fun e w' hS=>?_;obtain⟨n,C⟩:=hS;refine⟨n.ret,.mk' i n.wds n.only ⟨q1,rfl,C.weak (zh7 i n.only.size) fun k l=>?_⟩⟩;rcases l with l|l
  ·exact Nat.lt_of_lt_of_le (B k l) (Nat.le_trans i.size n.only.size)
  exact l.2
 |hei a=>
  obtain⟨q1,rfl,o⟩:=o;refine yhq E F M N O H (fun _=>by kernel_rfl) (fun _=>by kernel_rfl) (Q:=fun _ w'=>zhl G p b w w' _ s cl (.hei a) m) fun Y i=>(zyd q1 p b s a m Y (o.below i).2 (L.below i) (fun e=>J (e ▸ o.1)) (fun e=>hb (e ▸ o.1)) I z.1 hs).mono fun e w' hS=>?_;refine⟨hS.ret,.mk' i hS.wds (hS.only.weak fun k l=>?_) ⟨q1,rfl,.inl o.1,hS.row⟩⟩;rcases l with rfl|l|l
  ·exact .inl o.1
  ·exact .inr (.inl l)
  exact .inr (.inr l)
def zdv (k:Kl):List Fr:=match k.job with
 | some _=> [⟨k.op.k,k.steps, [k.op.a,k.op.n,0,0,0,0,0,0]⟩]
 | none=> []
structure KlO (F:Nat->Prop) (w:World) (q:Nat) (s:Sh) (k:Kl):Prop where
 lt:∀ b,F b->b < w.heap.size
 own:F q
 at':∃ sp sl jv G,zaa w q (zat s k (!k.job.isSome) jv (.pointer (some ⟨sp,0,.none⟩))) 178/\SK 0 w sp sl 1 (zdv k)/\(∀ b,foot sp sl b->F b/\b≠q)/\(∀ b,G b->F b/\b≠q/\¬ foot sp sl b)/\(k.job=none->jv= .nilIface)/\(∀ j,k.job=some j->JbO G w jv s k.c j)
theorem KlO.only{F G:Nat->Prop}{w w':World}{q:Nat}{s:Sh}{k:Kl}(h:KlO F w q s k)(f:Only G w w')(hd:∀ b,F b->¬ G b):KlO F w' q s k:=by
 obtain⟨r,m,sp,sl,jv,H,a1,n,i,l,o,p⟩:=h;exact⟨fun b hb=>Nat.lt_of_lt_of_le (r b hb) f.size,m,sp,sl,jv,H,a1.only f (hd q m),f.stk n (fun b hb=>hd b (i b hb).1),i,l,o,fun j t=>(p j t).only f (fun b hb=>hd b (l b hb).1)⟩
theorem KlO.below{F:Nat->Prop}{w w':World}{q:Nat}{s:Sh}{k:Kl}(h:KlO F w q s k)(hb:Below w.heap.size w w'):KlO F w' q s k:=h.only (Only.of_below (F:=fun _=>False) hb) (fun _ _ e=>e)
theorem KlO.weak{F G:Nat->Prop}{w:World}{q:Nat}{s:Sh}{k:Kl}(h:KlO F w q s k)(f:∀ b,F b->G b)(p:∀ b,G b->b<w.heap.size):KlO G w q s k:=by
 obtain⟨r,o,sp,sl,jv,H,a1,l,i,j,m,n⟩:=h;exact⟨p,f q o,sp,sl,jv,H,a1,l,fun b hb=>⟨f b (i b hb).1,(i b hb).2⟩,fun b hb=>⟨f b (j b hb).1,(j b hb).2⟩,m,n⟩
theorem ztx{q sp:Nat}{s:Sh}{k:Kl}{jv sl:Value}{most:Int}{fs:List Fr}{w:World}(i:Bool)(h:zaa w q (zat s k i jv (.pointer (some ⟨sp,0,.none⟩))) 178)(hs:SK 0 w sp sl most fs)(j:i=false->fs.length=1):
  Calls Tryz.prog 83 #[.pointer (some ⟨q,0,.none⟩)] w fun e w'=>e= .returned (.bool i)/\w'=w:=by
 have o:q<w.heap.size:=h.lt;have n:=ce (.bool i) (h.cell 9);have m:=ce (.pointer (some ⟨sp,0,.none⟩)) (h.cell 11);have b:=zft hs;cases i
 ·rw[j rfl]at b;replace b:=hd' b;clear h hs j;go_in;go_wp2_with (go_at_call 127;(with_reducible refine b.out.mono ?_);rintro r p ⟨rfl,l⟩;obtain rfl:=l.symm);go_returns;exact⟨rfl,rfl⟩
 clear h hs j b;go_in;go_wp2_with fail;go_returns;exact⟨rfl,rfl⟩
theorem KlO.rests{F:Nat->Prop}{w:World}{q:Nat}{s:Sh}{k:Kl}(h:KlO F w q s k):Calls Tryz.prog 83 #[.pointer (some ⟨q,0,.none⟩)] w fun e w'=>e= .returned (.bool k.rests)/\w'=w:=by
 obtain⟨o,p,sp,sl,jv,H,a1,b,i,l,m,n⟩:=h;refine ztx (!k.job.isSome) a1 b (fun e=>?_);unfold zdv;rcases hj:k.job with _|j
 ·rw[hj]at e;cases e
 rfl
structure ztp (F:Nat->Prop) (q p b:Nat) (w w':World) (r:Ending) (s:Sh) (k:Kl) (m:Mem):Prop where
 ret:∃ v,r= .returned (.tuple #[v,.int .i64 (k.step s m).2.2.2])/\w'.ownsRow w.heap.size 66 8 v (k.step s m).2.2.1.length ((k.step s m).2.2.1.flatMap fun e=> e.cells.toList)
 wds:zaq w' p b (k.step s m).2.1
 kl:KlO (grow F w w') w' q s (k.step s m).1
 only:Only (fun i=> F i\/i=p\/i=b) w w'
theorem zuq{F:Nat->Prop}{q p b:Nat}{s:Sh}{k:Kl}{m:Mem}{w:World}(h:KlO F w q s k)(E:zaq w p b m)(B:k.job=none):
  Calls Tryz.prog 110 #[.pointer (some ⟨q,0,.none⟩),.pointer (some ⟨p,0,.none⟩)] w fun r w'=>ztp F q p b w w' r s k m:=by
 have o:k.step s m=(k,m, [],2):=by unfold Kl.step;rw[B]
 have l:=((Below.refl w.heap.size w).alloc lr (.cells #[.pointer (some ⟨q,0,.none⟩)] 61)).alloc (by simp) (.cells #[.pointer (some ⟨p,0,.none⟩)] 113);have y:k.rests=true:=by unfold Kl.rests;rw[B];rfl
 have i:=(h.below l).rests;rw[y]at i;replace i:=hd' i;have n:Hid (∀ W,Below w.heap.size w W->ztp F q p b w W (.returned (.tuple #[.slice none 0 0,.int .i64 2])) s k m):=hd' fun W hb=>by
  refine⟨⟨_,by rw[o],?_⟩,?_,?_,Only.of_below hb⟩
  ·rw[o];exact zel _ _
  ·rw[o];exact E.below hb
  rw[o];exact(h.below hb).weak (fun b hb=>.inl hb) (zec h.lt hb.size)
 clear h E o B y;go_in;go_upto_region 1 with fail;have z:zaa ((w.alloc (.cells #[.pointer (some ⟨q,0,.none⟩)] 61)).alloc (.cells #[.pointer (some ⟨p,0,.none⟩)] 113)) w.heap.size #[.pointer (some ⟨q,0,.none⟩)] 61:=zaa.alloc (heap_alloc_new _ _) _;generalize (w.alloc (.cells #[.pointer (some ⟨q,0,.none⟩)] 61)).alloc (.cells #[.pointer (some ⟨p,0,.none⟩)] 113)=X at *;obtain⟨H,G,j⟩:=hidv w.heap.size;rw[<-j]at z ⊢;clear j;have I:H<X.heap.size:=z.lt;have c0:=ce (.pointer (some ⟨q,0,.none⟩)) (z.cell 0);have D:∀ W:World,(binOp .eql 61 (.pointer (some ⟨q,0,.none⟩)) (.pointer none)).run Tryz.prog W= .ok (.bool false) W:=fun W=>by kernel_rfl
 go_wp2_with (go_at_call 83;(with_reducible refine i.out.mono ?_);rintro r J ⟨rfl,C⟩;obtain rfl:=C.symm);go_returns;exact n.out _ l
end

end Go.Proofs.YtkbddndcegpllaaGreat
