/- Texts bound together: StkV CliA TelP. -/
import Derived.Test.YtkbddndcegpllaaGreatBg31

import Derived.Test.YtkbddndcegpllaaGreatBg29

set_option linter.all false
set_option maxHeartbeats 4000000
set_option maxRecDepth 100000
namespace Go.Proofs.YtkbddndcegpllaaGreat

section

open Go.RowKit

theorem z0j:(Tryz.prog.info? 226).map (fun i=>(i.zero,i.size,i.bytes))=some (some zrq,10,80):=by kernel_rfl
theorem z3g{T E:TypeId}{B:Nat}{w Y:World}{s:Nat}{sl:Value}{most:Int}{fs:List Fr}(h:Stk T E B w s sl most fs)(hb:Below w.heap.size w Y):Y.ownsRow B E 10 sl fs.length (flat fs):=
 zas h.owns fun k b=>hb.block k (h.zem k b).2
def padded (zs:List Int):List Int:=zs ++ List.replicate (8 - zs.length) 0
theorem zj4{zs:List Int}(h:zs.length<=8):(padded zs).length=8:=by simp[padded];omega
theorem zqx(code:Int){zs:List Int}(h:zs.length<=8):splice [.int .i64 code,.int .i64 0,.int .i64 0,.int .i64 0,.int .i64 0,.int .i64 0,.int .i64 0,.int .i64 0,.int .i64 0,.int .i64 0] 2 (zs.map (.int .i64))=(Fr.mk code 0 (padded zs)).cells:=by
 match zs,h with
 | [],_=>rfl
 | [_],_=>rfl
 | [_,_],_=>rfl
 | [_,_,_],_=>rfl
 | [_,_,_,_],_=>rfl
 | [_,_,_,_,_],_=>rfl
 | [_,_,_,_,_,_],_=>rfl
 | [_,_,_,_,_,_,_],_=>rfl
 | [_,_,_,_,_,_,_,_],_=>rfl
theorem ygr{l:List Int}(h:l.length=8):∃ a b c d e f g i,l= [a,b,c,d,e,f,g,i]:=by
 match l,h with
 | [a,b,c,d,e,f,g,i],_=>exact⟨a,b,c,d,e,f,g,i,rfl⟩
theorem zu5{fs:List Fr}{f:Fr}(h:zj6 fs)(i:f.regs.length=8):zj6 (fs++[f]):=by
 intro x b;rcases List.mem_append.1 b with b|b
 ·exact h x b
 rw[List.mem_singleton.1 b];exact i
theorem z0y{T E:TypeId}{B s g b K H:Nat}{w q Y i:World}{sl:Value}{most:Int}{fs:List Fr}{f:Fr}(j:Stk T E B q s sl most fs)
  (o:i.ownsRow B E 10 (.slice (some ⟨g,0,.none⟩) (fs.length+1) b) (fs.length+1) (flat fs++f.cells)) (z:Y.grownBy i sl.ownBlock) (r:Below q.heap.size q Y)
  (D:Only (foot s sl) w q) (l:sl.ownBlock=some g\/g=K) (y:sl.ownBlock=some g\/g=K->sl.ownBlock=some g\/(H<=g/\q.heap.size<=g)) (I:zj6 (fs++[f])):
  Only (foot s sl) w (i.setCell ⟨s,0,.none⟩ (.slice (some ⟨g,0,.none⟩) (fs.length+1) b))/\∃ p,(∀ k,p.ownBlock=some k->sl.ownBlock=some k\/H<=k)/\
   Stk T E B (i.setCell ⟨s,0,.none⟩ (.slice (some ⟨g,0,.none⟩) (fs.length+1) b)) s p most (fs++[f]):=by
 have hs:=j.lt;have t:some s≠sl.ownBlock:=fun e=>j.apart e.symm;have C:i.heap[s]?=some (.cells #[sl,.int .i64 most] T (0,0)):=(z.block s (by have:=r.size;omega) t).trans ((r.block s hs).trans j.head);have m:g≠s:=by
  rcases y l with h|⟨_,h⟩
  ·intro e;exact j.apart (by rw[h,e])
  omega
 refine⟨Only.setCell (Only.grown (D.trans (Only.of_below (F:=fun _=>False) r) fun _ _ h=>h.elim) z fun k n=>.inl (.inr n)) (.inl (.inl rfl)) _,.slice (some ⟨g,0,.none⟩) (fs.length+1) b,?_,j.lies,?_,?_,?_,I⟩
 ·intro k n;obtain rfl:g=k:=by injection n
  rcases y l with h|h
  ·exact .inl h
  exact .inr h.1
 ·rw[heap_setCell_same i s 0 _ T _ C];rfl
 ·have e:(fs++[f]).length=fs.length+1:=by simp
  rw[e,zja];exact zas o fun k n=>by
   obtain rfl:g=k:=by injection n
   exact heap_setCell_other _ _ _ _ m
 intro e;exact m (by injection e)
theorem zt0{B:Nat}{w:World}{s:Nat}{sl:Value}{most code:Int}{fs:List Fr}{ao:Option Addr}{zs:List Int}{cap:Nat}(h:SK B w s sl most fs)(h1:fs.length<most)(hz:zs.length<=8)(hB:B<=w.heap.size)(hm:most<=100000)
  (hc:∀ a,ao=some a->∀ j v,(zs.map (Value.int .i64))[j]?=some v->w.cell? (a.add j)=some v) (hn:ao=none->zs= []):
  Calls Tryz.prog 112 #[.pointer (some ⟨s,0,.none⟩),.int .i64 code,.slice ao zs.length cap] w fun e w'=>e= .returned (.bool true)/\Only (foot s sl) w w'/\
   ∃ m,(∀ k,m.ownBlock=some k->sl.ownBlock=some k\/w.heap.size<=k)/\SK B w' s m most (fs++[⟨code,0,padded zs⟩]):=by
 have c0:=h.cell0;have c1:=h.cell1;have b8:∃ a c,sl= .slice a fs.length c:=by
  rcases h.form with⟨rfl,rfl⟩|⟨g,cap,rfl,_⟩
  ·exact⟨_,_,rfl⟩
  exact⟨_,_,rfl⟩
 obtain⟨a,c,rfl⟩:=b8;have h3:decide (most<=(fs.length:Int))=false:=by simp;omega
 have h4:decide ((8:Int)<(zs.length:Int))=false:=by simp;omega
 go_in;go_wp2_with fail;go_quiet (fail);have O:SK B (w.drewN nq) s (.slice a fs.length c) most fs:=h.blocks fun _ _=>rfl;have U:∀ a,ao=some a->∀ j v,(zs.map (Value.int .i64))[j]?=some v->(w.drewN nq).cell? (a.add j)=some v:=hc;have ho:Only (foot s (.slice a fs.length c)) w (w.drewN nq):=Only.drewN (Only.refl _ _) nq;have z:(w.drewN nq).heap.size=w.heap.size:=rfl;generalize w.drewN nq=W at *;clear c0 c1 hc h;have c0:=O.cell0;have bk:=O.lt;go_upto_region 4 with fail;have hu:=Tryz.underlying220;have k1:(W.alloc (.cells #[.int .i64 code,.int .i64 0,.int .i64 0,.int .i64 0,.int .i64 0,.int .i64 0,.int .i64 0,.int .i64 0,.int .i64 0,.int .i64 0] 226)).heap[w.heap.size]?=some (.cells #[.int .i64 code,.int .i64 0,.int .i64 0,.int .i64 0,.int .i64 0,.int .i64 0,.int .i64 0,.int .i64 0,.int .i64 0,.int .i64 0] 226 (0,0)):=by rw[<-z];exact heap_alloc_new W _
 have k2:(zs.map (Value.int .i64)).length=Nat.min zs.length 8:=by rw[List.length_map];exact(Nat.min_eq_left hz).symm
 have k3:0<(zs.map (Value.int .i64)).length->(some (⟨w.heap.size,2,.none⟩:Addr))=some ⟨w.heap.size,2,.none⟩/\∃ ad,ao=some ad/\∀ j v,(zs.map (Value.int .i64))[j]?=some v->(W.alloc (.cells #[.int .i64 code,.int .i64 0,.int .i64 0,.int .i64 0,.int .i64 0,.int .i64 0,.int .i64 0,.int .i64 0,.int .i64 0,.int .i64 0] 226)).cell? (ad.add j)=some v:=by
  intro hp
  refine⟨rfl,?_⟩
  cases ao with
  |none=>rw[hn rfl]at hp;simp at hp
  |some ad=>exact⟨ad,rfl,fun j v hv=>(World.grownBy_alloc W _ none).cell (U ad rfl j v hv) (by simp)⟩
 have k4:2+(zs.map (Value.int .i64)).length<=([Value.int .i64 code,.int .i64 0,.int .i64 0,.int .i64 0,.int .i64 0,.int .i64 0,.int .i64 0,.int .i64 0,.int .i64 0,.int .i64 0]:List Value).length:=by simp;omega
 have k5:∀ v ∈ zs.map (Value.int .i64),v.oneCell'=true:=by intro v hv;obtain⟨x,_,rfl⟩:=List.mem_map.1 hv;rfl
 have k6:Below W.heap.size W (W.alloc (.cells #[.int .i64 code,.int .i64 0,.int .i64 0,.int .i64 0,.int .i64 0,.int .i64 0,.int .i64 0,.int .i64 0,.int .i64 0,.int .i64 0] 226)):=br.alloc lr _;go_wp2_with (refine wpList_copy_splice rfl (.tmp 30) (.tmp 31) 220 220 rfl 2 hu (by kernel_rfl) (some ⟨w.heap.size,2,.none⟩) ao 8 8 zs.length cap rfl rfl w.heap.size 2 [.int .i64 code,.int .i64 0,.int .i64 0,.int .i64 0,.int .i64 0,.int .i64 0,.int .i64 0,.int .i64 0,.int .i64 0,.int .i64 0] 226 k1 (zs.map (.int .i64)) k2 k3 k4 k5 W.heap.size W k6 (Nat.le_of_eq z) ?_;intro q hH T);have o:=hH.out;rw[zqx code hz]at o;obtain⟨C,D,E,I,J,L,M,N,he⟩:=ygr (zj4 hz);rw[he]at o;have hh:=fun i=>cell_of_row q w.heap.size i _ _ (0,0) o;simp only[Fr.cells,List.map_cons,List.map_nil]at hh o;have r:=O.below T;have b4:=ho.trans (Only.of_below (F:=fun _=>False) T) (fun _ _ h=>h.elim);have bm:s≠w.heap.size:=by omega
 have bj:W.heap.size<q.heap.size:=(Array.getElem?_eq_some_iff.1 (z ▸ o)).1;clear k1 k2 k3 k4 k5 k6 hH U hn ho hu;have ba:=Tryz.underlying221;obtain⟨i0,hi,bb,bc,bf⟩:=info_parts z0j;have c2:=r.cell0;have b0:=zhj r.head 0;have bi:=r.zem;have b5:=O.zem;have Z:some s≠(Value.slice a fs.length c).ownBlock:=fun e=>r.apart e.symm;have b:some w.heap.size≠(Value.slice a fs.length c).ownBlock:=fun e=>by have:=(b5 _ e.symm).2;omega
 have b1:B<=q.heap.size:=by omega
 have b6:s<q.heap.size:=r.lt;have V:∀ u ∈ ([.int .i64 code,.int .i64 0,.int .i64 C,.int .i64 D,.int .i64 E,.int .i64 I,.int .i64 J,.int .i64 L,.int .i64 M,.int .i64 N]:List Value),u.oneCell'=true:=by intro u hu;simp at hu;rcases hu with rfl|rfl|rfl|rfl|rfl|rfl|rfl|rfl|rfl|rfl<;>rfl
 have b2:(fs.length+1)*80<=140737488355328:=by omega
 have b3:fs.length+1<=maxLen:=by simp only[maxLen];omega
 generalize hH:w.heap.size=H at *;have g0:∀ i,q.cell? ⟨H,i,.none⟩=(#[.int .i64 code,.int .i64 0,.int .i64 C,.int .i64 D,.int .i64 E,.int .i64 I,.int .i64 J,.int .i64 L,.int .i64 M,.int .i64 N]:Array Value)[i]?:=hh;clear hh O h3 h4;have hS:∀ w',Below q.heap.size q w'->w'.cell? ⟨s,0,.none⟩=some (.slice a fs.length c)/\w'.frozen? ⟨s,0,.none⟩=false/\w'.cell? ⟨H,0,.none⟩=some (.int .i64 code)/\w'.cell? ⟨H,1,.none⟩=some (.int .i64 0)/\w'.cell? ⟨H,2,.none⟩=some (.int .i64 C)/\w'.cell? ⟨H,3,.none⟩=some (.int .i64 D)/\w'.cell? ⟨H,4,.none⟩=some (.int .i64 E)/\w'.cell? ⟨H,5,.none⟩=some (.int .i64 I)/\w'.cell? ⟨H,6,.none⟩=some (.int .i64 J)/\w'.cell? ⟨H,7,.none⟩=some (.int .i64 L)/\w'.cell? ⟨H,8,.none⟩=some (.int .i64 M)/\w'.cell? ⟨H,9,.none⟩=some (.int .i64 N):=by intro w' hb;have kk:=zai hb;refine⟨kk _ _ _ c2,(hb.frozen (p:=⟨s,0,.none⟩) b6).trans b0,?_⟩;(repeat' apply And.intro)<;>exact kk _ _ _ (g0 _)
 have R:∀ w1 w',Below q.heap.size q w1->w1.grownBy w' (Value.slice a fs.length c).ownBlock->w'.cell? ⟨s,0,.none⟩=some (.slice a fs.length c)/\w'.frozen? ⟨s,0,.none⟩=false/\w'.cell? ⟨H,0,.none⟩=some (.int .i64 code)/\w'.cell? ⟨H,1,.none⟩=some (.int .i64 0)/\w'.cell? ⟨H,2,.none⟩=some (.int .i64 C)/\w'.cell? ⟨H,3,.none⟩=some (.int .i64 D)/\w'.cell? ⟨H,4,.none⟩=some (.int .i64 E)/\w'.cell? ⟨H,5,.none⟩=some (.int .i64 I)/\w'.cell? ⟨H,6,.none⟩=some (.int .i64 J)/\w'.cell? ⟨H,7,.none⟩=some (.int .i64 L)/\w'.cell? ⟨H,8,.none⟩=some (.int .i64 M)/\w'.cell? ⟨H,9,.none⟩=some (.int .i64 N):=by
  intro w1 w' hb n;have h:=hS w1 hb;have b7:s<w1.heap.size:=by have:=hb.size;omega
  refine⟨n.cell h.1 Z,(World.frozen?_of_block (n.block s b7 Z)).trans h.2.1,?_⟩;obtain⟨_,_,h0,h1,r,h3,h4,h5,h6,h7,h8,h9⟩:=h;exact⟨n.cell h0 b,n.cell h1 b,n.cell r b,n.cell h3 b,n.cell h4 b,n.cell h5 b,n.cell h6 b,n.cell h7 b,n.cell h8 b,n.cell h9 b⟩
 go_cut [] (fun wx=>Only (foot s (.slice a fs.length c)) w wx/\∃ m,(∀ k,m.ownBlock=some k->(Value.slice a fs.length c).ownBlock=some k\/H<=k)/\SK B wx s m most (fs++[⟨code,0,padded zs⟩]));case first=>
  go_region_law
   (first|(refine step_append_lies _ rfl (.tmp 37) (.tmp 39) 221 rfl B 226 i0 zrq 10 80 ba hi bb bc bf rfl (by decide) (.slice a fs.length c) fs.length (flat fs) rfl (z3g r (by go_grown)) ⟨q.heap.size,0,.none⟩ 1 1 [.int .i64 code,.int .i64 0,.int .i64 C,.int .i64 D,.int .i64 E,.int .i64 I,.int .i64 J,.int .i64 L,.int .i64 M,.int .i64 N] rfl rfl (World.news_of_block (by exact heap_alloc_new q _)) V (by decide) b3 b2 (Nat.le_trans b1 (Below.size (B:=0) (by go_grown))) _ rfl ?_;intro g bg w3 y l S bh;have q1:=(R _ _ (by go_grown) l).1;have q2:=(R _ _ (by go_grown) l).2.1))
  all_goals go_wp2_with fail
  all_goals go_meet;case rel=>refine z0y r (he ▸ y) l ?_ b4 S (fun k=>by rcases k with k|k;exact .inl k;right;rw[k];simp;omega) (zu5 r.regs (zj4 hz));go_grown
 case rest=>obtain⟨hw,m,X,b9⟩:=hcut;go_wp2_with fail;go_ret;exact⟨rfl,hw,m,by rw[hH];exact X,b9⟩
end

section

open Go.RowKit

attribute [local go_sem ↓] Go.wp_at_zero Go.wp_at_succ

def zat (s:Sh) (k:Kl) (idle:Bool) (jv sv:Value):Array Value:= #[.int .i64 s.p,.int .i64 s.c,.int .i64 s.m,.int .i64 k.c,.int .i64 k.first,.int .i64 k.op.k,.int .i64 k.op.a,.int .i64 k.op.n,jv,.bool idle,.bool k.told,sv,.int .i64 k.steps]
theorem zbn{q sp:Nat}{s:Sh}{k:Kl}{i:Bool}{jv sl:Value}{most:Int}{fs:List Fr}(x at':Int){w:World}(h:zaa w q (zat s k i jv (.pointer (some ⟨sp,0,.none⟩))) 178)(hs:SK 0 w sp sl most fs)(S:¬ foot sp sl q):
  Calls Tryz.prog 114 #[.pointer (some ⟨q,0,.none⟩),.int .i64 x,.int .i64 at'] w fun r w'=>r= .returned (zaf k.c k.op at' x).val/\zaa w' q (zat s k true .nilIface (.pointer (some ⟨sp,0,.none⟩))) 178/\SK 0 w' sp (.slice none 0 0) most []/\Only (fun b=>b=q\/foot sp sl b) w w':=by
 unfold Ev.val Ev.cells zaf;dsimp only;obtain⟨b2,sc,sm⟩:=s;obtain⟨n,kf,⟨ok,oa,on⟩,kj,kt,ks⟩:=k;dsimp only[zat]at h ⊢;have z:=(Below.refl w.heap.size w).alloc lr (.cells #[.int .i64 0,.int .i64 0,.int .i64 0,.int .i64 0,.int .i64 0,.int .i64 0,.int .i64 0,.int .i64 0] 66);have hE:zaa (w.alloc (.cells #[.int .i64 0,.int .i64 0,.int .i64 0,.int .i64 0,.int .i64 0,.int .i64 0,.int .i64 0,.int .i64 0] 66)) w.heap.size #[.int .i64 0,.int .i64 0,.int .i64 0,.int .i64 0,.int .i64 0,.int .i64 0,.int .i64 0,.int .i64 0] 66:=heap_alloc_new _ _;have lq:q<w.heap.size:=h.lt;go_in;go_upto_region 1 with fail;have J:=h.below z;have b0:=hs.below z;generalize w.alloc (.cells #[.int .i64 0,.int .i64 0,.int .i64 0,.int .i64 0,.int .i64 0,.int .i64 0,.int .i64 0,.int .i64 0] 66)=X at *;obtain⟨E,bf,C⟩:=hidv w.heap.size;rw[<-C]at hE ⊢;have l:w.heap.size<=E:=by omega
 have j:q≠E:=by omega
 have I:∀ b,foot sp sl b->b≠E:=fun b hb=>by
  rcases hb with rfl|hb
  ·have:=hs.lt;omega
  have:=hs.zem b hb;omega
 have b1:sp≠E:=I sp (.inl rfl);clear C;have lX:q<X.heap.size:=J.lt;have fX:=zax J;have c9:=ce (.bool i) (J.cell 9);have c8:=ce jv (J.cell 8);go_upto_region 2 with fail;have o:=(J.set 9 (.bool true)).set 8 .nilIface;have D:∀ b,foot sp sl b->b≠q:=fun b hb e=>S (e ▸ hb);have V:SK 0 ((X.setCell ⟨q,9,.none⟩ (.bool true)).setCell ⟨q,8,.none⟩ .nilIface) sp sl most fs:=b0.blocks fun b hb=>by rw[Below.heap_setCell _ ⟨q,8,.none⟩ _ b (D b hb),Below.heap_setCell _ ⟨q,9,.none⟩ _ b (D b hb)]
 have M:=(hE.other (fun e=>j e.symm) 9 (.bool true)).other (fun e=>j e.symm) 8 .nilIface;have O:Only (fun b=>b=q\/foot sp sl b) w ((X.setCell ⟨q,9,.none⟩ (.bool true)).setCell ⟨q,8,.none⟩ .nilIface):=Only.setCell (F:=fun b=>b=q\/foot sp sl b) (Only.setCell (F:=fun b=>b=q\/foot sp sl b) (Only.of_below z) (.inl (.inl rfl)) _) (.inl (.inl rfl)) _;generalize (X.setCell ⟨q,9,.none⟩ (.bool true)).setCell ⟨q,8,.none⟩ .nilIface=Y at *;clear c9 c8 lX fX J b0 hs z;replace o:=o.cast (cs':= #[.int .i64 b2,.int .i64 sc,.int .i64 sm,.int .i64 n,.int .i64 kf,.int .i64 ok,.int .i64 oa,.int .i64 on,.nilIface,.bool true,.bool kt,.pointer (some ⟨sp,0,.none⟩),.int .i64 ks]) rfl;have lY:q<Y.heap.size:=o.lt;have b3:=ce (.pointer (some ⟨sp,0,.none⟩)) (o.cell 11);have N:=hd' (zq6 V);go_upto_region 3 with(go_at_call 148;(with_reducible refine N.out.mono ?_);rintro r w1 ⟨rfl,B,T⟩);have m:=o.only B S;have H:=M.only B (fun hb=>I E hb rfl);have R:=O.trans B (fun b _ hb=>.inr hb);clear lY b3 N o M O B V I;have bc:q<w1.heap.size:=m.lt;have bb:E<w1.heap.size:=H.lt;have d3:=ci n (m.cell 3);have d5:=ci ok (m.cell 5);have d6:=ci oa (m.cell 6);have d7:=ci on (m.cell 7);refine zad 11 (by kernel_rfl) (by kernel_rfl) ?_;dsimp only[List.take,List.drop];repeat (go_big_quiet_step (fail))
 refine wpQuiet_nil ?_;rintro _ ⟨L,rfl⟩;have b4:=m.below L.below;have y:=H.below L.below;have ba:=T.below L.below;have b7:=R.trans (Only.of_below (F:=fun _=>False) L.below) (fun _ _ hb=>hb.elim);generalize L.w=Z at *;change wpList _ _ _ _ _ Z;clear bc bb d3 d5 d6 d7 m H T R;have lE:E<Z.heap.size:=y.lt;have fE:=zax y;obtain⟨e0,e1,e2,e3,e4,e5,e6,e7⟩:=ci8 0 0 0 0 0 0 0 0 y.cell;go_wp2_with fail;have hF:zaa ((((((((Z.setCell ⟨E,0,.none⟩ (.int .i64 5)).setCell ⟨E,1,.none⟩ (.int .i64 n)).setCell ⟨E,2,.none⟩ (.int .i64 ok)).setCell ⟨E,3,.none⟩ (.int .i64 oa)).setCell ⟨E,4,.none⟩ (.int .i64 on)).setCell ⟨E,5,.none⟩ (.int .i64 at')).setCell ⟨E,6,.none⟩ (.int .i64 0)).setCell ⟨E,7,.none⟩ (.int .i64 x)) E #[.int .i64 5,.int .i64 n,.int .i64 ok,.int .i64 oa,.int .i64 on,.int .i64 at',.int .i64 0,.int .i64 x] 66:=((((((((y.set 0 (.int .i64 5)).set 1 (.int .i64 n)).set 2 (.int .i64 ok)).set 3 (.int .i64 oa)).set 4 (.int .i64 on)).set 5 (.int .i64 at')).set 6 (.int .i64 0)).set 7 (.int .i64 x));have b8:zaa ((((((((Z.setCell ⟨E,0,.none⟩ (.int .i64 5)).setCell ⟨E,1,.none⟩ (.int .i64 n)).setCell ⟨E,2,.none⟩ (.int .i64 ok)).setCell ⟨E,3,.none⟩ (.int .i64 oa)).setCell ⟨E,4,.none⟩ (.int .i64 on)).setCell ⟨E,5,.none⟩ (.int .i64 at')).setCell ⟨E,6,.none⟩ (.int .i64 0)).setCell ⟨E,7,.none⟩ (.int .i64 x)) q #[.int .i64 b2,.int .i64 sc,.int .i64 sm,.int .i64 n,.int .i64 kf,.int .i64 ok,.int .i64 oa,.int .i64 on,.nilIface,.bool true,.bool kt,.pointer (some ⟨sp,0,.none⟩),.int .i64 ks] 178:=((((((((b4.other j 0 (.int .i64 5)).other j 1 (.int .i64 n)).other j 2 (.int .i64 ok)).other j 3 (.int .i64 oa)).other j 4 (.int .i64 on)).other j 5 (.int .i64 at')).other j 6 (.int .i64 0)).other j 7 (.int .i64 x));have b6:Only (fun b=>b=q\/foot sp sl b) w ((((((((Z.setCell ⟨E,0,.none⟩ (.int .i64 5)).setCell ⟨E,1,.none⟩ (.int .i64 n)).setCell ⟨E,2,.none⟩ (.int .i64 ok)).setCell ⟨E,3,.none⟩ (.int .i64 oa)).setCell ⟨E,4,.none⟩ (.int .i64 on)).setCell ⟨E,5,.none⟩ (.int .i64 at')).setCell ⟨E,6,.none⟩ (.int .i64 0)).setCell ⟨E,7,.none⟩ (.int .i64 x)):=((((((((b7.setCell (p:=⟨E,0,.none⟩) (.inr l) (.int .i64 5)).setCell (p:=⟨E,1,.none⟩) (.inr l) (.int .i64 n)).setCell (p:=⟨E,2,.none⟩) (.inr l) (.int .i64 ok)).setCell (p:=⟨E,3,.none⟩) (.inr l) (.int .i64 oa)).setCell (p:=⟨E,4,.none⟩) (.inr l) (.int .i64 on)).setCell (p:=⟨E,5,.none⟩) (.inr l) (.int .i64 at')).setCell (p:=⟨E,6,.none⟩) (.inr l) (.int .i64 0)).setCell (p:=⟨E,7,.none⟩) (.inr l) (.int .i64 x));have b9:SK 0 ((((((((Z.setCell ⟨E,0,.none⟩ (.int .i64 5)).setCell ⟨E,1,.none⟩ (.int .i64 n)).setCell ⟨E,2,.none⟩ (.int .i64 ok)).setCell ⟨E,3,.none⟩ (.int .i64 oa)).setCell ⟨E,4,.none⟩ (.int .i64 on)).setCell ⟨E,5,.none⟩ (.int .i64 at')).setCell ⟨E,6,.none⟩ (.int .i64 0)).setCell ⟨E,7,.none⟩ (.int .i64 x)) sp (.slice none 0 0) most []:=ba.blocks fun b hb=>by
  have b5:b≠E:=by
   rcases hb with rfl|hb
   ·exact b1
   cases hb
  simp only[Below.heap_setCell _ ⟨E,_,.none⟩ _ b b5]
 generalize (((((((Z.setCell ⟨E,0,.none⟩ (.int .i64 5)).setCell ⟨E,1,.none⟩ (.int .i64 n)).setCell ⟨E,2,.none⟩ (.int .i64 ok)).setCell ⟨E,3,.none⟩ (.int .i64 oa)).setCell ⟨E,4,.none⟩ (.int .i64 on)).setCell ⟨E,5,.none⟩ (.int .i64 at')).setCell ⟨E,6,.none⟩ (.int .i64 0)).setCell ⟨E,7,.none⟩ (.int .i64 x)=U at *;obtain⟨r0,r1,r2,r3,r4,r5,r6,r7⟩:=ci8 5 n ok oa on at' 0 x hF.cell;exact bodyPost_ret (v:= .agg #[.int .i64 5,.int .i64 n,.int .i64 ok,.int .i64 oa,.int .i64 on,.int .i64 at',.int .i64 0,.int .i64 x]) (by simp[results,Tryz.results114,go_sem,r0,r1,r2,r3,r4,r5,r6,r7]) rfl ⟨rfl,b8,b9,b6⟩
end

section

open Go.RowKit

theorem zdb:(Tryz.prog.info? 66).map (fun i=>(i.zero,i.size,i.bytes))=some (some (.agg #[.int .i64 0,.int .i64 0,.int .i64 0,.int .i64 0,.int .i64 0,.int .i64 0,.int .i64 0,.int .i64 0]),8,64):=by kernel_rfl
theorem zel(B:Nat)(w:World):w.ownsRow B 66 8 (.slice none 0 0) 0 []:=⟨by simp,.inl ⟨rfl,rfl⟩⟩
theorem zfo(e:Ev):∀ u ∈ e.cells.toList,u.oneCell'=true:=by
 intro u hu;simp only[Ev.cells,List.mem_cons,List.not_mem_nil,or_false]at hu;rcases hu with rfl|rfl|rfl|rfl|rfl|rfl|rfl|rfl<;>rfl
theorem evRd(e:Ev)(X:World):RdS (X.alloc (.cells e.cells 66)) 8 (.slice (some ⟨X.heap.size,0,.none⟩) 1 1) 1 e.cells.toList:=RdS.new (heap_alloc_new _ _) rfl (by decide)
theorem zav{w w':World}{B:Nat}{E:TypeId}{size:Nat}{v:Value}{n:Nat}{xs:List Value}(h:w.ownsRow B E size v n xs)(hb:Below w.heap.size w w'):w'.ownsRow B E size v n xs:=
 zas h fun k b=>hb.block k (h.lt k b).2
theorem zkk{w w':World}{B:Nat}{F:Nat->Prop}{E:TypeId}{size:Nat}{v:Value}{n:Nat}{xs:List Value}(h:w.ownsRow B E size v n xs)(j:Only F w w')(i:∀ b,B<=b->¬ F b):w'.ownsRow B E size v n xs:=
 zas h fun k f=>j.block k (h.lt k f).2 (i k (h.lt k f).1)
theorem zaa.belB{B:Nat}{w w':World}{q:Nat}{cs:Array Value}{T:TypeId}(h:zaa w q cs T)(hb:Below B w w')(b:q<B):zaa w' q cs T:=(hb.block q b).trans h
theorem zfp{F:Nat->Prop}{w X Y:World}(h:Only F w X)(hb:Below w.heap.size X Y):Only F w Y:=
 ⟨hb.os.trans h.os,hb.tape.trans h.tape,hb.output.trans h.output,Nat.le_trans h.size hb.size,fun k b f=>(hb.block k b).trans (h.block k b f)⟩
theorem zdy{B:Nat}{w w':World}(hb:Below B w w'):Only (fun b=>B<=b) w w':=⟨hb.os,hb.tape,hb.output,hb.size,fun k _ f=>hb.block k (by omega)⟩
def AdO (F:Nat->Prop) (w:World) (q:Nat) (s:Sh) (a:Ad):Prop:=F q/\zaa w q (zan s a) 282
theorem AdO.only{F G:Nat->Prop}{w w':World}{q:Nat}{s:Sh}{a:Ad}(h:AdO F w q s a)(b:Only G w w')(hd:∀ k,F k->¬ G k):AdO F w' q s a:=⟨h.1,h.2.only b (hd q h.1)⟩
theorem AdO.below{F:Nat->Prop}{w w':World}{q:Nat}{s:Sh}{a:Ad}(h:AdO F w q s a)(hb:Below w.heap.size w w'):AdO F w' q s a:=⟨h.1,h.2.below hb⟩
theorem FeO.below{F:Nat->Prop}{w w':World}{q:Nat}{s:Sh}{t:Fe}(h:FeO F w q s t)(hb:Below w.heap.size w w'):FeO F w' q s t:=h.only (Only.of_below (F:=fun _=>False) hb) (fun _ _ e=>e)
theorem MalO.below{F:Nat->Prop}{w w':World}{q:Nat}{s:Sh}{cl:Int}{r:Rs}{c:Option Cm}(h:MalO F w q s cl r c)(hb:Below w.heap.size w w'):MalO F w' q s cl r c:=h.only (Only.of_below (F:=fun _=>False) hb) (fun _ _ e=>e)
structure zbp (q sp:Nat) (s:Sh) (k:Kl) (d:Bool) (jv sl:Value) (most:Int) (fs:List Fr) (es:List Ev) (w w':World) (r:Ending):Prop where
 ret:∃ v,r= .returned v/\w'.ownsRow w.heap.size 66 8 v es.length (es.flatMap fun e=> e.cells.toList)
 row:zaa w' q (zat s k d (if d=true then .nilIface else jv) (.pointer (some ⟨sp,0,.none⟩))) 178
 stk:SK 0 w' sp (if d=true then .slice none 0 0 else sl) most (if d=true then [] else fs)
 only:Only (fun b=> b=q\/foot sp sl b) w w'
section

variable {G:Nat->Prop} {Y:World} {q1:Nat} {s:Sh}

theorem zgh{f:Fe}(h:FeO G Y q1 s f):Calls Tryz.prog 281 #[.agg #[.pointer (some ⟨q1,0,.none⟩)]] Y fun e w'=>e= .returned (.bool f.gave)/\Below Y.heap.size Y w':=by
 obtain⟨_,q2,b,_⟩:=h;exact zxu q1 _ f.gave Y b.row rfl
theorem zf9{f:Fe}(h:FeO G Y q1 s f):Calls Tryz.prog 193 #[.pointer (some ⟨q1,0,.none⟩)] Y fun e w'=>e= .returned (.bool f.done)/\Below Y.heap.size Y w':=by
 obtain⟨_,q2,b,_⟩:=h;exact(zkw q1 _ f.done Y b.row rfl).mono (fun e w' h=>⟨h.1,h.2 ▸ Below.refl _ _⟩)
theorem zm8{f:Fe}(_h:FeO G Y q1 s f):Calls Tryz.prog 282 #[.agg #[.pointer (some ⟨q1,0,.none⟩)]] Y fun e w'=>e= .returned (gotV none)/\Below Y.heap.size Y w':=zze _ Y
theorem zqy{f:Fe}(h:FeO G Y q1 s f):Calls Tryz.prog 280 #[.agg #[.pointer (some ⟨q1,0,.none⟩)]] Y fun e w'=>e= .returned (.int .i64 (Jb.fre f).err)/\Below Y.heap.size Y w':=by
 obtain⟨_,q2,b,_⟩:=h;exact z2s q1 _ f.gave Y b.row rfl
theorem zd8{t:Rr}(h:RrO G Y q1 s t):Calls Tryz.prog 287 #[.agg #[.pointer (some ⟨q1,0,.none⟩)]] Y fun e w'=>e= .returned (.bool (Jb.aga t).gave)/\Below Y.heap.size Y w':=zyz h
theorem zd5{t:Rr}(h:RrO G Y q1 s t):Calls Tryz.prog 283 #[.pointer (some ⟨q1,0,.none⟩)] Y fun e w'=>e= .returned (.bool t.done)/\Below Y.heap.size Y w':=by
 obtain⟨_,_,_,_,_,_,_,_,_,_,b,_⟩:=h;exact(zzc q1 _ t.done Y b rfl).mono (fun e w' h=>⟨h.1,h.2 ▸ Below.refl _ _⟩)
theorem zgc{t:Rr}(hd:t.done=true->t.err=0->∃ r,t.res=some r)(h:RrO G Y q1 s t):Calls Tryz.prog 288 #[.agg #[.pointer (some ⟨q1,0,.none⟩)]] Y fun e w'=>e= .returned (gotV (Jb.aga t).took)/\Below Y.heap.size Y w':=zzp h hd
theorem zii{t:Rr}(h:RrO G Y q1 s t):Calls Tryz.prog 286 #[.agg #[.pointer (some ⟨q1,0,.none⟩)]] Y fun e w'=>e= .returned (.int .i64 (Jb.aga t).err)/\Below Y.heap.size Y w':=by
 obtain⟨_,_,_,_,_,_,_,_,_,_,b,_⟩:=h;exact z1d q1 s t _ _ _ _ Y b
theorem zno{cl:Int}{r:Rs}{c:Option Cm}(_h:MalO G Y q1 s cl r c):Calls Tryz.prog 251 #[.pointer (some ⟨q1,0,.none⟩)] Y fun e w'=>e= .returned (.bool false)/\Below Y.heap.size Y w':=(ztz _ Y).mono (fun e w' h=>⟨h.1,h.2 ▸ Below.refl _ _⟩)
theorem zm2{cl:Int}{r:Rs}{c:Option Cm}(h:MalO G Y q1 s cl r c):Calls Tryz.prog 248 #[.pointer (some ⟨q1,0,.none⟩)] Y fun e w'=>e= .returned (.bool (Jb.mal r c).done)/\Below Y.heap.size Y w':=zvm h
theorem zrs{cl:Int}{r:Rs}{c:Option Cm}(h:MalO G Y q1 s cl r c):Calls Tryz.prog 252 #[.pointer (some ⟨q1,0,.none⟩)] Y fun e w'=>e= .returned (gotV (Jb.mal r c).took)/\Below Y.heap.size Y w':=zux h
theorem zv7{cl:Int}{r:Rs}{c:Option Cm}(h:MalO G Y q1 s cl r c):Calls Tryz.prog 250 #[.pointer (some ⟨q1,0,.none⟩)] Y fun e w'=>e= .returned (.int .i64 (Jb.mal r c).err)/\Below Y.heap.size Y w':=zy3 h
theorem zqz{a:Ad}(_h:AdO G Y q1 s a):Calls Tryz.prog 303 #[.agg #[.pointer (some ⟨q1,0,.none⟩)]] Y fun e w'=>e= .returned (.bool false)/\Below Y.heap.size Y w':=zy9 _ Y
theorem zti{a:Ad}(h:AdO G Y q1 s a):Calls Tryz.prog 292 #[.pointer (some ⟨q1,0,.none⟩)] Y fun e w'=>e= .returned (.bool a.done)/\Below Y.heap.size Y w':=(zxq q1 _ a.done Y h.2 rfl).mono (fun e w' h=>⟨h.1,h.2 ▸ Below.refl _ _⟩)
theorem z0p{a:Ad}(_h:AdO G Y q1 s a):Calls Tryz.prog 304 #[.agg #[.pointer (some ⟨q1,0,.none⟩)]] Y fun e w'=>e= .returned (gotV none)/\Below Y.heap.size Y w':=zx3 _ Y
theorem z8a{a:Ad}(h:AdO G Y q1 s a):Calls Tryz.prog 302 #[.agg #[.pointer (some ⟨q1,0,.none⟩)]] Y fun e w'=>e= .returned (.int .i64 a.err)/\Below Y.heap.size Y w':=zz3 q1 s a Y h.2
end

end

end Go.Proofs.YtkbddndcegpllaaGreat
