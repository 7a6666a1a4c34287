/- Texts bound together: RenX RenF RenS RenT RenU RenV RenY. -/
import Derived.Test.YtedcnffebdpmmaaGreatBu18

set_option linter.all false
set_option maxHeartbeats 4000000
set_option maxRecDepth 100000
namespace Go.Proofs.YtedcnffebdpmmaaGreat

attribute [local go_sem] za7 zby ze3 zg0 zhm

section

open Go.RowKit

attribute [local go_sem ↓] Go.wp_at_zero Go.wp_at_succ

def zev (o:Option Un):Bool:=match o with | some u=> u.done | none=> false
def zha (o:Option Cm):Bool:=match o with | some u=> u.done | none=> false
theorem zcp(s:Sh)(t:Rr)(r:Rs)(f:Fe)(h1:t.res=some r)(h2:t.free=some f):
  (zev t.undo=true/\t.settle s= {t with err:=1,done:=true})\/(zev t.undo=false/\zha t.com=true/\t.settle s= {t with err:=0,done:=true})\/
  (zev t.undo=false/\zha t.com=false/\r.done=false/\t.settle s=t)\/(zev t.undo=false/\zha t.com=false/\r.done=true/\r.got=none/\t.settle s= {t with err:=3,done:=true})\/
  (∃ b,zev t.undo=false/\zha t.com=false/\r.done=true/\r.got=some b/\(t.undo≠none\/(t.undo=none/\t.com≠none)\/(t.undo=none/\t.com=none/\f.done=false))/\t.settle s=t)\/
  (∃ b,zev t.undo=false/\zha t.com=false/\r.done=true/\r.got=some b/\t.undo=none/\t.com=none/\f.done=true/\f.gave=true/\t.settle s= {t with com:=some (zc4 s t.c b)})\/
  (∃ b,zev t.undo=false/\zha t.com=false/\r.done=true/\r.got=some b/\t.undo=none/\t.com=none/\f.done=true/\f.gave=false/\t.settle s= {t with undo:=some (zf1 s t.c b)}):=by
 obtain⟨p,o,m,i,j,n,l⟩:=t;dsimp only at h1 h2;subst h1 h2;unfold Rr.settle zev zha;dsimp only;rcases i with _|u<;>rcases j with _|v
 ·cases h3:r.done<;>cases h4:r.got<;>cases h5:f.done<;>cases h6:f.gave<;>simp[*]
 ·cases h7:v.done<;>cases h3:r.done<;>cases h4:r.got<;>simp[*]
 ·cases h7:u.done<;>cases h3:r.done<;>cases h4:r.got<;>simp[*]
 cases h8:u.done<;>cases h7:v.done<;>cases h3:r.done<;>cases h4:r.got<;>simp[*]
structure z7c (q q1 q2 q3 q4:Nat) (s:Sh) (t:Rr) (w w':World) (e:Ending):Prop where
 ret:e= .returned (.tuple #[])
 only:Only (fun k=> k=q) w w'
 at':∃ q5 q6,zaa w' q (zby s (t.settle s) (.pointer (some ⟨q1,0,.none⟩)) (.pointer (some ⟨q2,0,.none⟩)) (ptrV (t.settle s).undo q5) (ptrV (t.settle s).com q6)) 219/\
  (((t.settle s).undo=t.undo/\q5=q3)\/(t.undo=none/\w.heap.size<=q5/\∃ x,(t.settle s).undo=some x/\zaa w' q5 (zhm s x) 248))/\
  (((t.settle s).com=t.com/\q6=q4)\/(t.com=none/\w.heap.size<=q6/\∃ x,(t.settle s).com=some x/\zaa w' q6 (ze3 s x) 250))
theorem ztq{F1:Nat->Prop}(q q1 q2 q3 q4:Nat)(s:Sh)(t:Rr)(r:Rs)(f:Fe)(pv:Value)(w:World)(bn:t.res=some r)(b8:t.free=some f)
  (hq:zaa w q (zby s t (.pointer (some ⟨q1,0,.none⟩)) (.pointer (some ⟨q2,0,.none⟩)) (ptrV t.undo q3) (ptrV t.com q4)) 219) (hr:RsO F1 w q1 s r) (hf:zaa w q2 (za7 s f pv) 216)
  (hu:∀ x,t.undo=some x->zaa w q3 (zhm s x) 248) (hc:∀ x,t.com=some x->zaa w q4 (ze3 s x) 250):
  Calls Tryz.prog 108 #[some q] w fun e w'=>z7c q q1 q2 q3 q4 s t w w' e:=by
 have h0:=At1.start hq;clear hq;have C:=zcp s t r f bn b8;have o:Hid (∀ Y (t':Rr),t.settle s=t'->t'.undo=t.undo->t'.com=t.com->At1 q w Y (zby s t' (.pointer (some ⟨q1,0,.none⟩)) (.pointer (some ⟨q2,0,.none⟩)) (ptrV t.undo q3) (ptrV t.com q4)) 219->z7c q q1 q2 q3 q4 s t w Y (.returned (.tuple #[]))):=hd' fun Y t' U e2 e3 hA=>⟨rfl,hA.only,q3,q4,by rw[U,e2,e3];exact hA.row,.inl ⟨by rw[U,e2],rfl⟩,.inl ⟨by rw[U,e3],rfl⟩⟩
 have J:Hid (∀ Y q6 (x:Cm),t.settle s= {t with com:=some x}->t.com=none->w.heap.size<=q6->zaa Y q6 (ze3 s x) 250->At1 q w Y (zby s t (.pointer (some ⟨q1,0,.none⟩)) (.pointer (some ⟨q2,0,.none⟩)) (ptrV t.undo q3) (.pointer (some ⟨q6,0,.none⟩))) 219->z7c q q1 q2 q3 q4 s t w Y (.returned (.tuple #[]))):=hd' fun Y q6 x U e2 h6 hx hA=>⟨rfl,hA.only,q3,q6,by rw[U];exact hA.row,.inl ⟨by rw[U],rfl⟩,.inr ⟨e2,h6,x,by rw[U],hx⟩⟩
 have L:Hid (∀ Y q5 (x:Un),t.settle s= {t with undo:=some x}->t.undo=none->w.heap.size<=q5->zaa Y q5 (zhm s x) 248->At1 q w Y (zby s t (.pointer (some ⟨q1,0,.none⟩)) (.pointer (some ⟨q2,0,.none⟩)) (.pointer (some ⟨q5,0,.none⟩)) (ptrV t.com q4)) 219->z7c q q1 q2 q3 q4 s t w Y (.returned (.tuple #[]))):=hd' fun Y q5 x U e2 h5 hx hA=>⟨rfl,hA.only,q5,q4,by rw[U];exact hA.row,.inr ⟨e2,h5,x,by rw[U],hx⟩,.inl ⟨by rw[U],rfl⟩⟩
 have b2:=hd' (zei hr);have bj:=fun Y (hY:Below w.heap.size w Y)=>zil (hr.only (Only.of_below (F:=fun _=>False) hY) (fun _ _ e=>e));have bh:=fun Y (hY:Below w.heap.size w Y)=>zkw q2 _ f.done Y (hf.below hY) rfl;have bi:=fun Y (hY:Below w.heap.size w Y)=>zh8 q2 _ f.gave Y (hf.below hY) rfl;have b3:∀ Y,Below w.heap.size w Y->Calls Tryz.prog 122 #[ptrV t.undo q3] Y fun e w'=>e= .returned (.bool (zev t.undo))/\w'=Y:=fun Y hY=>by
  rcases h:t.undo with _|u
  ·exact zof Y
  exact zx6 q3 _ u.done Y ((hu u h).below hY) rfl
 have b1:∀ Y,Below w.heap.size w Y->Calls Tryz.prog 123 #[ptrV t.com q4] Y fun e w'=>e= .returned (.bool (zha t.com))/\w'=Y:=fun Y hY=>by
  rcases h:t.com with _|u
  ·exact zi5 Y
  exact zo9 q4 _ u.done Y ((hc u h).below hY) rfl
 have y:=fun x Y (hY:zaa Y q (zby s t (.pointer (some ⟨q1,0,.none⟩)) (.pointer (some ⟨q2,0,.none⟩)) (ptrV t.undo q3) (ptrV t.com q4)) 219)=>zsi q s t _ _ _ _ x Y hY;have D:=fun b W=>ztm s t.c b W;have G:=fun b W=>z3q s t.c b W;clear hr hf hu hc bn b8;generalize r.done=rd at *;generalize f.done=fd at *;generalize f.gave=fg at *;unfold gotV at b2;generalize cb:r.got=og at *;obtain⟨sp,sc,sm⟩:=s;obtain⟨tc,bq,bf,H,T,bp,bc⟩:=t;dsimp only at C b3 b1 y o J L D G;obtain⟨vu,S⟩:∃ v,v=ptrV H q3:=⟨_,rfl⟩;obtain⟨vc,b0⟩:∃ v,v=ptrV T q4:=⟨_,rfl⟩;rw[<-S]at h0 o J b3 y;rw[<-b0]at h0 o L b1 y;replace S:=hd' S;replace b0:=hd' b0;generalize zev H=ud at *;generalize zha T=cd at *;obtain⟨blk,R⟩:∃ b,b=og.getD Blk.zero:=⟨_,rfl⟩;rw[<-R]at b2;obtain⟨bb,z⟩:∃ b,b=og.isSome:=⟨_,rfl⟩;rw[<-z]at b2;replace z:=hd' z;replace R:=hd' R;obtain⟨i,l,m,bk,j⟩:=blk;dsimp only[zg0]at b2;replace bj:=hd' bj;replace bh:=hd' bh;replace bi:=hd' bi;replace b3:=hd' b3;replace b1:=hd' b1;replace y:=hd' y;replace D:=hd' D;replace G:=hd' G;replace C:=hd' C;have c5:=h0.cell;go_in;go_upto_region 2 with(go_at_call 121;(with_reducible refine b2.out.mono ?_);rintro r w1 ⟨rfl,bg⟩);have I:=bg.trans ((Below.refl w.heap.size w1).alloc bg.size (.cells #[i,l,m,bk,j] 203));have hE:zaa (w1.alloc (.cells #[i,l,m,bk,j] 203)) w1.heap.size #[i,l,m,bk,j] 203:=heap_alloc_new _ _;have c7:w.heap.size<=w1.heap.size:=bg.size;generalize w1.alloc (.cells #[i,l,m,bk,j] 203)=X at *;obtain⟨E,c6,bm⟩:=hidv w1.heap.size;simp only[<-bm]at hE c7 ⊢;have c4:E≠q:=fun e=>by have:=h0.lt;omega
 clear bm c6 c5 b2 bg;have M:=h0.below I;have lX:=M.lt;have lE:=hE.lt;have c8:=M.cell;replace I:=hd' I;have N:=hd' (b3.out X I.out);have O:=hd' (b1.out X I.out);have V:=hd' (bj.out X I.out);have bs:=hd' (bh.out X I.out);have bz:=hd' (bi.out X I.out);clear b3 b1 bj bh bi;rcases C.out with⟨rfl,hs⟩|⟨rfl,rfl,hs⟩|⟨rfl,rfl,rfl,hs⟩|⟨rfl,rfl,rfl,rfl,hs⟩|⟨b,rfl,rfl,rfl,rfl,hw,hs⟩|⟨b,rfl,rfl,rfl,rfl,U,e2,rfl,rfl,hs⟩|⟨b,rfl,rfl,rfl,rfl,U,e2,rfl,rfl,hs⟩;case inl=>clear C D G J L;replace hs:=hd' hs;go_wp2_with (first|(go_at_call 122;(with_reducible refine N.out.mono ?_);rintro r w2 ⟨rfl,n⟩;obtain rfl:=n.symm)|(go_at_call 107;(with_reducible refine(y.out _ _ M.row).mono ?_);rintro r w7 hT;obtain rfl:=hT.ret));go_returns;exact o.out _ _ hs.out rfl rfl (M.turned hT)
 case inr.inl=>clear C D G J L;replace hs:=hd' hs;go_wp2_with (first|(go_at_call 122;(with_reducible refine N.out.mono ?_);rintro r w2 ⟨rfl,n⟩;obtain rfl:=n.symm)|(go_at_call 123;(with_reducible refine O.out.mono ?_);rintro r w3 ⟨rfl,p⟩;obtain rfl:=p.symm)|(go_at_call 107;(with_reducible refine(y.out _ _ M.row).mono ?_);rintro r w7 hT;obtain rfl:=hT.ret));go_returns;exact o.out _ _ hs.out rfl rfl (M.turned hT)
 case inr.inr.inl=>clear C D G J L;replace hs:=hd' hs;go_wp2_with (first|(go_at_call 122;(with_reducible refine N.out.mono ?_);rintro r w2 ⟨rfl,n⟩;obtain rfl:=n.symm)|(go_at_call 123;(with_reducible refine O.out.mono ?_);rintro r w3 ⟨rfl,p⟩;obtain rfl:=p.symm)|(go_at_call 124;(with_reducible refine V.out.mono ?_);rintro r w4 ⟨rfl,B⟩;obtain rfl:=B.symm));go_returns;exact o.out _ _ hs.out rfl rfl M
 case inr.inr.inr.inl=>clear C D G J L;replace hs:=hd' hs;replace z:Hid (bb=false):=hd' z.out;obtain rfl:bb=false:=z.out;go_wp2_with (first|(go_at_call 122;(with_reducible refine N.out.mono ?_);rintro r w2 ⟨rfl,n⟩;obtain rfl:=n.symm)|(go_at_call 123;(with_reducible refine O.out.mono ?_);rintro r w3 ⟨rfl,p⟩;obtain rfl:=p.symm)|(go_at_call 124;(with_reducible refine V.out.mono ?_);rintro r w4 ⟨rfl,B⟩;obtain rfl:=B.symm)|(go_at_call 107;(with_reducible refine(y.out _ _ M.row).mono ?_);rintro r w7 hT;obtain rfl:=hT.ret));go_returns;exact o.out _ _ hs.out rfl rfl (M.turned hT)
 case inr.inr.inr.inr.inl=>
  clear C D G J L;replace hs:=hd' hs;obtain rfl:bb=true:=z.out;rcases hw with hw|⟨bw,n⟩|⟨bw,n,p⟩
  ·obtain rfl:vu= .pointer (some ⟨q3,0,.none⟩):=by
    rcases H with _|u
    ·exact absurd rfl hw
    exact S.out
   go_wp2_with (first|(go_at_call 122;(with_reducible refine N.out.mono ?_);rintro r w2 ⟨rfl,n⟩;obtain rfl:=n.symm)|(go_at_call 123;(with_reducible refine O.out.mono ?_);rintro r w3 ⟨rfl,p⟩;obtain rfl:=p.symm)|(go_at_call 124;(with_reducible refine V.out.mono ?_);rintro r w4 ⟨rfl,B⟩;obtain rfl:=B.symm));go_returns;exact o.out _ _ hs.out rfl rfl M
  ·obtain rfl:vu= .pointer none:=by rw[S.out,bw];rfl
   obtain rfl:vc= .pointer (some ⟨q4,0,.none⟩):=by
    rcases T with _|u
    ·exact absurd rfl n
    exact b0.out
   go_wp2_with (first|(go_at_call 122;(with_reducible refine N.out.mono ?_);rintro r w2 ⟨rfl,n⟩;obtain rfl:=n.symm)|(go_at_call 123;(with_reducible refine O.out.mono ?_);rintro r w3 ⟨rfl,p⟩;obtain rfl:=p.symm)|(go_at_call 124;(with_reducible refine V.out.mono ?_);rintro r w4 ⟨rfl,B⟩;obtain rfl:=B.symm));go_returns;exact o.out _ _ hs.out rfl rfl M
  obtain rfl:vu= .pointer none:=by rw[S.out,bw];rfl
  obtain rfl:vc= .pointer none:=by rw[b0.out,n];rfl
  subst p;go_wp2_with (first|(go_at_call 122;(with_reducible refine N.out.mono ?_);rintro r w2 ⟨rfl,n⟩;obtain rfl:=n.symm)|(go_at_call 123;(with_reducible refine O.out.mono ?_);rintro r w3 ⟨rfl,p⟩;obtain rfl:=p.symm)|(go_at_call 124;(with_reducible refine V.out.mono ?_);rintro r w4 ⟨rfl,B⟩;obtain rfl:=B.symm)|(go_at_call 125;(with_reducible refine bs.out.mono ?_);rintro r w5 ⟨rfl,ba⟩;obtain rfl:=ba.symm));go_returns;exact o.out _ _ hs.out rfl rfl M
 case inr.inr.inr.inr.inr.inl=>
  clear C y o;replace hs:=hd' hs;obtain rfl:bb=true:=z.out;obtain rfl:vu= .pointer none:=by rw[S.out,U];rfl
  obtain rfl:vc= .pointer none:=by rw[b0.out,e2];rfl
  have bu:b=⟨i,l,m,bk,j⟩:=R.out.symm;subst bu;have gn:=D.out ⟨i,l,m,bk,j⟩;dsimp only at gn;replace gn:=hd' gn;replace bv:=hd' (fun Y q0 x=>J.out Y q0 x);clear D G J L;go_upto_region 11 with(first|(go_at_call 122;(with_reducible refine N.out.mono ?_);rintro r w2 ⟨rfl,n⟩;obtain rfl:=n.symm)|(go_at_call 123;(with_reducible refine O.out.mono ?_);rintro r w3 ⟨rfl,p⟩;obtain rfl:=p.symm)|(go_at_call 124;(with_reducible refine V.out.mono ?_);rintro r w4 ⟨rfl,B⟩;obtain rfl:=B.symm)|(go_at_call 125;(with_reducible refine bs.out.mono ?_);rintro r w5 ⟨rfl,ba⟩;obtain rfl:=ba.symm)|(go_at_call 126;(with_reducible refine bz.out.mono ?_);rintro r w6 ⟨rfl,bx⟩;obtain rfl:=bx.symm));have b6:At1 q w X.drew _ _:=⟨M.row.drew,M.only.drew,M.ls⟩;have b5:=hE.drew;have hS:=hd' (fun (Y:World) (v:Value) (h:zaa Y q (zby ⟨sp,sc,sm⟩ ⟨tc,bq,bf,H,T,bp,bc⟩ (.pointer (some ⟨q1,0,.none⟩)) (.pointer (some ⟨q2,0,.none⟩)) (.pointer none) v) 219) (h2:zaa Y E #[i,l,m,bk,j] 203)=>(⟨h.cell 0,h.cell 1,h.cell 2,h.cell 3,h2.cell 0,h2.cell 1,h2.cell 2,h2.cell 3,h2.cell 4⟩:Y.cell? ⟨q,0,.none⟩=some (.int .i64 sp)/\Y.cell? ⟨q,1,.none⟩=some (.int .i64 sc)/\Y.cell? ⟨q,2,.none⟩=some (.int .i64 sm)/\Y.cell? ⟨q,3,.none⟩=some (.int .i64 tc)/\Y.cell? ⟨E,0,.none⟩=some (.bool i)/\Y.cell? ⟨E,1,.none⟩=some (.int .i64 l)/\Y.cell? ⟨E,2,.none⟩=some (.int .i64 m)/\Y.cell? ⟨E,3,.none⟩=some (.int .i64 bk)/\Y.cell? ⟨E,4,.none⟩=some (.int .i64 j)))
  go_region_held3 (fun Y=>Y.cell? ⟨q,0,.none⟩=some (.int .i64 sp)/\Y.cell? ⟨q,1,.none⟩=some (.int .i64 sc)/\Y.cell? ⟨q,2,.none⟩=some (.int .i64 sm)/\Y.cell? ⟨q,3,.none⟩=some (.int .i64 tc)/\Y.cell? ⟨E,0,.none⟩=some (.bool i)/\Y.cell? ⟨E,1,.none⟩=some (.int .i64 l)/\Y.cell? ⟨E,2,.none⟩=some (.int .i64 m)/\Y.cell? ⟨E,3,.none⟩=some (.int .i64 bk)/\Y.cell? ⟨E,4,.none⟩=some (.int .i64 j))
   (first|exact hS.out _ _ b6.row b5|exact hS.out _ _ hC.row b4|exact hS.out _ _ ((hC.set 7 _).row.cast rfl) (b4.other c4 _ _))
   (first|(go_at_call 127;(with_reducible refine(gn.out _).mono ?_);rintro r w6 ⟨q6,rfl,b9,Z,b7⟩;have hC:=b6.below b7;have b4:=b5.below b7;have c9:=hC.cell;have zf:=hC.free))
  go_wp2_with fail;go_returns;exact bv.out _ q6 _ hs.out e2 (Nat.le_trans I.out.size b9) (Z.other (by have h1:=M.lt;have h2:X.heap.size<=q6:=b9;omega) _ _) (hC.set 7 _)
 case inr.inr.inr.inr.inr.inr=>
  clear C y o;replace hs:=hd' hs;obtain rfl:bb=true:=z.out;obtain rfl:vu= .pointer none:=by rw[S.out,U];rfl
  obtain rfl:vc= .pointer none:=by rw[b0.out,e2];rfl
  have bu:b=⟨i,l,m,bk,j⟩:=R.out.symm;subst bu;have gn:=G.out ⟨i,l,m,bk,j⟩;dsimp only at gn;replace gn:=hd' gn;replace bv:=hd' (fun Y q0 x=>L.out Y q0 x);clear D G J L;go_upto_region 1 with(first|(go_at_call 122;(with_reducible refine N.out.mono ?_);rintro r w2 ⟨rfl,n⟩;obtain rfl:=n.symm)|(go_at_call 123;(with_reducible refine O.out.mono ?_);rintro r w3 ⟨rfl,p⟩;obtain rfl:=p.symm)|(go_at_call 124;(with_reducible refine V.out.mono ?_);rintro r w4 ⟨rfl,B⟩;obtain rfl:=B.symm)|(go_at_call 125;(with_reducible refine bs.out.mono ?_);rintro r w5 ⟨rfl,ba⟩;obtain rfl:=ba.symm)|(go_at_call 126;(with_reducible refine bz.out.mono ?_);rintro r w6 ⟨rfl,bx⟩;obtain rfl:=bx.symm));have b6:At1 q w X.drew _ _:=⟨M.row.drew,M.only.drew,M.ls⟩;have b5:=hE.drew;have hS:=hd' (fun (Y:World) (v:Value) (h:zaa Y q (zby ⟨sp,sc,sm⟩ ⟨tc,bq,bf,H,T,bp,bc⟩ (.pointer (some ⟨q1,0,.none⟩)) (.pointer (some ⟨q2,0,.none⟩)) v (.pointer none)) 219) (h2:zaa Y E #[i,l,m,bk,j] 203)=>(⟨h.cell 0,h.cell 1,h.cell 2,h.cell 3,h2.cell 0,h2.cell 1,h2.cell 2,h2.cell 3,h2.cell 4⟩:Y.cell? ⟨q,0,.none⟩=some (.int .i64 sp)/\Y.cell? ⟨q,1,.none⟩=some (.int .i64 sc)/\Y.cell? ⟨q,2,.none⟩=some (.int .i64 sm)/\Y.cell? ⟨q,3,.none⟩=some (.int .i64 tc)/\Y.cell? ⟨E,0,.none⟩=some (.bool i)/\Y.cell? ⟨E,1,.none⟩=some (.int .i64 l)/\Y.cell? ⟨E,2,.none⟩=some (.int .i64 m)/\Y.cell? ⟨E,3,.none⟩=some (.int .i64 bk)/\Y.cell? ⟨E,4,.none⟩=some (.int .i64 j)))
  go_region_held3 (fun Y=>Y.cell? ⟨q,0,.none⟩=some (.int .i64 sp)/\Y.cell? ⟨q,1,.none⟩=some (.int .i64 sc)/\Y.cell? ⟨q,2,.none⟩=some (.int .i64 sm)/\Y.cell? ⟨q,3,.none⟩=some (.int .i64 tc)/\Y.cell? ⟨E,0,.none⟩=some (.bool i)/\Y.cell? ⟨E,1,.none⟩=some (.int .i64 l)/\Y.cell? ⟨E,2,.none⟩=some (.int .i64 m)/\Y.cell? ⟨E,3,.none⟩=some (.int .i64 bk)/\Y.cell? ⟨E,4,.none⟩=some (.int .i64 j))
   (first|exact hS.out _ _ b6.row b5|exact hS.out _ _ hC.row b4|exact hS.out _ _ ((hC.set 6 _).row.cast rfl) (b4.other c4 _ _))
   (first|(go_at_call 128;(with_reducible refine(gn.out _).mono ?_);rintro r w6 ⟨q6,rfl,b9,Z,b7⟩;have hC:=b6.below b7;have b4:=b5.below b7;have ca:=hC.cell;have zf:=hC.free))
  go_wp2_with fail;go_returns;exact bv.out _ q6 _ hs.out U (Nat.le_trans I.out.size b9) (Z.other (by have h1:=M.lt;have h2:X.heap.size<=q6:=b9;omega) _ _) (hC.set 6 _)
theorem ztt{S:Nat->Prop}(q q1:Nat)(s:Sh)(t:Rr)(r:Rs)(v2 v3 v4:Value)(w:World)(O:zaa w q (zby s t (.pointer (some ⟨q1,0,.none⟩)) v2 v3 v4) 219)(R:RsO S w q1 s r)(hd:t.done=true)(N:t.err=0):
  Calls Tryz.prog 219 #[some q] w fun e w'=>e= .returned (gotV r.got)/\Below w.heap.size w w':=by
 have n:=fun Y (hY:Below w.heap.size w Y)=>zei (R.only (Only.of_below (F:=fun _=>False) hY) (fun _ _ e=>e));clear R;unfold gotV at n ⊢;generalize r.got.getD Blk.zero=blk at *;generalize r.got.isSome=L at *;obtain⟨b,j,l,y,i⟩:=blk;dsimp only[zg0]at n ⊢;replace n:=hd' n;have C:=(Below.refl w.heap.size w).alloc lr (.cells #[.bool false,.int .i64 0,.int .i64 0,.int .i64 0,.int .i64 0] 203);have H:zaa (w.alloc (.cells #[.bool false,.int .i64 0,.int .i64 0,.int .i64 0,.int .i64 0] 203)) w.heap.size #[.bool false,.int .i64 0,.int .i64 0,.int .i64 0,.int .i64 0] 203:=heap_alloc_new _ _;go_in;go_upto_region 1 with fail;generalize w.alloc (.cells #[.bool false,.int .i64 0,.int .i64 0,.int .i64 0,.int .i64 0] 203)=X at *;obtain⟨E,Z,z⟩:=hidv w.heap.size;simp only[<-z]at H ⊢;have m:w.heap.size<=E:=by omega
 clear z;have lE:=H.lt;have o:=O.below C;have c9:X.cell? ⟨q,9,.none⟩=some (.bool true):=by rw[<-hd];exact o.cell 9
 have c8:X.cell? ⟨q,8,.none⟩=some (.int .i64 0):=by rw[<-N];exact o.cell 8
 have T:=o.cell;clear hd N O o;go_wp2_with (first|(go_at_call 121;(with_reducible refine(n.out _ C).mono ?_);rintro r M ⟨rfl,G⟩;have I:=zab C G;have B:=H.below G;have V:=B.cell;have ef:=zax B));have D:zaa (((((M.setCell ⟨E,0,.none⟩ (.bool b)).setCell ⟨E,1,.none⟩ (.int .i64 j)).setCell ⟨E,2,.none⟩ (.int .i64 l)).setCell ⟨E,3,.none⟩ (.int .i64 y)).setCell ⟨E,4,.none⟩ (.int .i64 i)) E #[b,j,l,y,i] 203:=(((((B.set 0 (.bool b)).set 1 (.int .i64 j)).set 2 (.int .i64 l)).set 3 (.int .i64 y)).set 4 (.int .i64 i));have J:Below w.heap.size w (((((M.setCell ⟨E,0,.none⟩ (.bool b)).setCell ⟨E,1,.none⟩ (.int .i64 j)).setCell ⟨E,2,.none⟩ (.int .i64 l)).setCell ⟨E,3,.none⟩ (.int .i64 y)).setCell ⟨E,4,.none⟩ (.int .i64 i)):=(((((I.setCell (p:=⟨E,0,.none⟩) m (.bool b)).setCell (p:=⟨E,1,.none⟩) m (.int .i64 j)).setCell (p:=⟨E,2,.none⟩) m (.int .i64 l)).setCell (p:=⟨E,3,.none⟩) m (.int .i64 y)).setCell (p:=⟨E,4,.none⟩) m (.int .i64 i));generalize ((((M.setCell ⟨E,0,.none⟩ (.bool b)).setCell ⟨E,1,.none⟩ (.int .i64 j)).setCell ⟨E,2,.none⟩ (.int .i64 l)).setCell ⟨E,3,.none⟩ (.int .i64 y)).setCell ⟨E,4,.none⟩ (.int .i64 i)=U at *;have r0:=ce (.bool b) (D.cell 0);have r1:=ci j (D.cell 1);have r2:=ci l (D.cell 2);have r3:=ci y (D.cell 3);have r4:=ci i (D.cell 4);exact bodyPost_ret (v:= .tuple #[.agg #[b,j,l,y,i],L]) (by simp[results,Tryz.results219,go_sem,r0,r1,r2,r3,r4]) rfl ⟨rfl,J⟩
theorem zyb(q:Nat)(s:Sh)(t:Rr)(I J L M:Value)(w:World)(z:zaa w q (zby s t I J L M) 219)(y:t.done=false\/t.err≠0):
  Calls Tryz.prog 219 #[some q] w fun e w'=>e= .returned (gotV none)/\Below w.heap.size w w':=by
 have r:t.done=false\/(t.done=true/\(t.err==0)=false):=by
  cases h:t.done
  ·exact .inl rfl
  exact .inr ⟨rfl,by simpa[h] using y⟩
 have n:=(Below.refl w.heap.size w).alloc lr (.cells #[.bool false,.int .i64 0,.int .i64 0,.int .i64 0,.int .i64 0] 203);have i:zaa (w.alloc (.cells #[.bool false,.int .i64 0,.int .i64 0,.int .i64 0,.int .i64 0] 203)) w.heap.size #[.bool false,.int .i64 0,.int .i64 0,.int .i64 0,.int .i64 0] 203:=heap_alloc_new _ _;go_in;go_upto_region 1 with fail;generalize w.alloc (.cells #[.bool false,.int .i64 0,.int .i64 0,.int .i64 0,.int .i64 0] 203)=X at *;obtain⟨E,B,j⟩:=hidv w.heap.size;simp only[<-j]at i ⊢;have b:w.heap.size<=E:=by omega
 clear j;have Y:=i.lt;have l:=z.below n;have N:=ce (.bool false) (i.cell 0);have O:=ci 0 (i.cell 1);have R:=ci 0 (i.cell 2);have S:=ci 0 (i.cell 3);have T:=ci 0 (i.cell 4);have V:=zax i;have c9:=ce (.bool t.done) (l.cell 9);have c8:=ci t.err (l.cell 8);clear y z l;generalize t.done=Z at *;generalize t.err=te at *;rcases r with rfl|⟨rfl,C⟩;all_goals go_wp2_with fail;have m:zaa (((((X.setCell ⟨E,0,.none⟩ (.bool false)).setCell ⟨E,1,.none⟩ (.int .i64 0)).setCell ⟨E,2,.none⟩ (.int .i64 0)).setCell ⟨E,3,.none⟩ (.int .i64 0)).setCell ⟨E,4,.none⟩ (.int .i64 0)) E #[.bool false,.int .i64 0,.int .i64 0,.int .i64 0,.int .i64 0] 203:=(((((i.set 0 (.bool false)).set 1 (.int .i64 0)).set 2 (.int .i64 0)).set 3 (.int .i64 0)).set 4 (.int .i64 0));have o:Below w.heap.size w (((((X.setCell ⟨E,0,.none⟩ (.bool false)).setCell ⟨E,1,.none⟩ (.int .i64 0)).setCell ⟨E,2,.none⟩ (.int .i64 0)).setCell ⟨E,3,.none⟩ (.int .i64 0)).setCell ⟨E,4,.none⟩ (.int .i64 0)):=(((((n.setCell (p:=⟨E,0,.none⟩) b (.bool false)).setCell (p:=⟨E,1,.none⟩) b (.int .i64 0)).setCell (p:=⟨E,2,.none⟩) b (.int .i64 0)).setCell (p:=⟨E,3,.none⟩) b (.int .i64 0)).setCell (p:=⟨E,4,.none⟩) b (.int .i64 0));generalize ((((X.setCell ⟨E,0,.none⟩ (.bool false)).setCell ⟨E,1,.none⟩ (.int .i64 0)).setCell ⟨E,2,.none⟩ (.int .i64 0)).setCell ⟨E,3,.none⟩ (.int .i64 0)).setCell ⟨E,4,.none⟩ (.int .i64 0)=U at *;have r0:=ce (.bool false) (m.cell 0);have D:=ci 0 (m.cell 1);have F:=ci 0 (m.cell 2);have G:=ci 0 (m.cell 3);have H:=ci 0 (m.cell 4);exact bodyPost_ret (v:= .tuple #[.agg #[.bool false,.int .i64 0,.int .i64 0,.int .i64 0,.int .i64 0],.bool false]) (by simp[results,Tryz.results219,go_sem,r0,D,F,G,H]) rfl ⟨rfl,o⟩
end

section

open Go.RowKit

def RrO (F:Nat->Prop) (w:World) (q:Nat) (s:Sh) (t:Rr):Prop:=
 (∀ k,F k->k < w.heap.size)/\F q/\∃ q1 q2 q3 q4 F1 F2,(∀ k,F1 k->F k/\k≠q)/\(∀ k,F2 k->F k/\k≠q/\¬ F1 k)/\
  zaa w q (zby s t (ptrV t.res q1) (ptrV t.free q2) (ptrV t.undo q3) (ptrV t.com q4)) 219/\
  (∀ x,t.res=some x->RsO F1 w q1 s x)/\(∀ x,t.free=some x->FeO F2 w q2 s x)/\
  (∀ x,t.undo=some x->(F q3/\q3≠q/\¬ F1 q3/\¬ F2 q3)/\zaa w q3 (zhm s x) 248)/\
  (∀ x,t.com=some x->(F q4/\q4≠q/\¬ F1 q4/\¬ F2 q4)/\zaa w q4 (ze3 s x) 250)
theorem zec{F:Nat->Prop}{w w':World}(h:∀ k,F k->k<w.heap.size)(hs:w.heap.size<=w'.heap.size):∀ k,grow F w w' k->k<w'.heap.size:=fun k e=>e.elim (fun e=>Nat.lt_of_lt_of_le (h k e) hs) (fun e=>e.2)
theorem RrO.settled{F:Nat->Prop}{w:World}{q:Nat}{s:Sh}{t:Rr}(h:RrO F w q s t){r:Rs}{f:Fe}(l:t.res=some r)(i:t.free=some f):
  Calls Tryz.prog 108 #[some q] w fun e w'=>e= .returned (.tuple #[])/\Only (fun k=>k=q) w w'/\RrO (grow F w w') w' q s (t.settle s):=by
 obtain⟨z,h1,q1,q2,q3,q4,U,V,m,n,p,T,S,hu,hc⟩:=h;have O:=S f i;obtain⟨f1,q7,X,f3⟩:=O;have B:zaa w q (zby s t (.pointer (some ⟨q1,0,.none⟩)) (.pointer (some ⟨q2,0,.none⟩)) (ptrV t.undo q3) (ptrV t.com q4)) 219:=by rw[l,i]at p;exact p
 refine(ztq q q1 q2 q3 q4 s t r f (ptrV f.put q7) w l i B (T r l) X.row (fun x j=>(hu x j).2) (fun x j=>(hc x j).2)).mono fun e w' hS=>?_;obtain⟨Z,q6,Y,E,G⟩:=hS.at';have R:=hS.only.size;have er:(t.settle s).res=t.res/\(t.settle s).free=t.free:=by rcases zcp s t r f l i with⟨_,e⟩|⟨_,_,e⟩|⟨_,_,_,e⟩|⟨_,_,_,_,e⟩|⟨b,_,_,_,_,_,e⟩|⟨b,_,_,_,_,_,_,_,_,e⟩|⟨b,_,_,_,_,_,_,_,_,e⟩<;>rw[e]<;>exact⟨rfl,rfl⟩
 refine⟨hS.ret,hS.only,zec z R,.inl h1,q1,q2,Z,q6,U,V,fun k o=>⟨.inl (m k o).1,(m k o).2⟩,fun k o=>⟨.inl (n k o).1,(n k o).2⟩,?_,?_,?_,?_,?_⟩
 ·rw[er.1,er.2,l,i];exact Y
 ·intro x j;rw[er.1]at j;exact(T x j).only hS.only (fun k o=>(m k o).2)
 ·intro x j;rw[er.2]at j;exact(S x j).only hS.only (fun k o=>(n k o).2.1)
 ·intro x j;rcases E with⟨E,rfl⟩|⟨E,M,y,N,D⟩
  ·rw[E]at j;obtain⟨⟨H,C,I,J⟩,L⟩:=hu x j;exact⟨⟨.inl H,C,I,J⟩,L.only hS.only C⟩
  rw[N]at j;injection j with j;subst j;exact⟨⟨.inr ⟨M,D.lt⟩,fun e=>by have:=z q h1;omega,fun e=>by have:=z _ (m _ e).1;omega,fun e=>by have:=z _ (n _ e).1;omega⟩,D⟩
 intro x j;rcases G with⟨G,rfl⟩|⟨G,M,y,N,D⟩
 ·rw[G]at j;obtain⟨⟨H,C,I,J⟩,L⟩:=hc x j;exact⟨⟨.inl H,C,I,J⟩,L.only hS.only C⟩
 rw[N]at j;injection j with j;subst j;exact⟨⟨.inr ⟨M,D.lt⟩,fun e=>by have:=z q h1;omega,fun e=>by have:=z _ (m _ e).1;omega,fun e=>by have:=z _ (n _ e).1;omega⟩,D⟩
structure rrOk (s:Sh) (t:Rr):Prop where
 cl:t.done=false->∃ r f,t.res=some r/\t.free=some f/\((∀ x,r.seeker=some x->skOk s x)/\(∀ x,r.runner=some x->rnOk s x))/\feOk s f/\(∀ u,t.undo=some u->unOk s u)/\(∀ u,t.com=some u->cmOk s u)/\(t.undo=none\/t.com=none)/\(r.done=true->f.done=true->t.undo≠none\/t.com≠none)
theorem RrO.zuw{F:Nat->Prop}{q p b:Nat}{s:Sh}{t:Rr}{m:Mem}{w:World}(h:RrO F w q s t){r:Rs}(o:t.res=some r)(Z:zaq w p b m)(O:¬ F p)(hb:¬ F b)(U:Fits s m)(V:(∀ x,r.seeker=some x->skOk s x)/\(∀ x,r.runner=some x->rnOk s x))(hs:m.st<1000000000):
  ∃ q1,w.cell? ⟨q,4,.none⟩=some (.pointer (some ⟨q1,0,.none⟩))/\Calls Tryz.prog 181 #[.pointer (some ⟨q1,0,.none⟩),some p] w fun e w'=>zef F p b w w' e (zb0 s r m).2/\RrO (grow F w w') w' q s {t with res:=some (zb0 s r m).1}:=by
 obtain⟨M,h1,q1,q2,q3,q4,G,S,j,l,B,Y,N,hu,hc⟩:=h;have c4:=ce (ptrV t.res q1) (B.cell 4);rw[o]at c4;refine⟨q1,c4,(zo5 (Y r o) Z (fun e=>O (j p e).1) (fun e=>hb (j b e).1) U V hs).mono fun e w' hS=>?_⟩;obtain⟨z,T⟩:=hS;have R:=z.only.size;have X:¬ (G q\/q=p\/q=b):=by
  rintro(e|e|e)
  ·exact(j q e).2 rfl
  ·exact O (e ▸ h1)
  exact hb (e ▸ h1)
 have n:∀ k,F k->¬ G k->¬ (G k\/k=p\/k=b):=fun k i D e=>by
  rcases e with e|e|e
  ·exact D e
  ·exact O (e ▸ i)
  exact hb (e ▸ i)
 have E:∀ k,F k->¬ G k->¬ grow G w w' k:=fun k i D e=>by
  rcases e with e|e
  ·exact D e
  have:=M k i;omega
 refine⟨⟨z.ret,z.wds,z.only.weak fun k i=>i.imp (fun e=>(j k e).1) id⟩,zec M R,.inl h1,q1,q2,q3,q4,grow G w w',S,fun k i=>?_,fun k i=>⟨.inl (l k i).1,(l k i).2.1,E k (l k i).1 (l k i).2.2⟩,?_,?_,?_,?_,?_⟩
 ·rcases i with i|i
  ·exact⟨.inl (j k i).1,(j k i).2⟩
  exact⟨.inr i,fun e=>by have:=M q h1;omega⟩
 ·have:=B.only z.only X;rw[o]at this;exact this
 ·intro x y;injection y with y;subst y;exact T
 ·intro x y;exact(N x y).only z.only (fun k i=>n k (l k i).1 (l k i).2.2)
 ·intro x y;obtain⟨⟨C,I,H,J⟩,L⟩:=hu x y;exact⟨⟨.inl C,I,E _ C H,J⟩,L.only z.only (n _ C H)⟩
 intro x y;obtain⟨⟨C,I,H,J⟩,L⟩:=hc x y;exact⟨⟨.inl C,I,E _ C H,J⟩,L.only z.only (n _ C H)⟩
theorem RrO.weak{F G:Nat->Prop}{w:World}{q:Nat}{s:Sh}{t:Rr}(h:RrO F w q s t)(j:∀ k,F k->G k)(hb:∀ k,G k->k<w.heap.size):RrO G w q s t:=by
 obtain⟨y,h1,q1,q2,q3,q4,o,p,f,i,m,r,n,hu,hc⟩:=h;exact⟨hb,j q h1,q1,q2,q3,q4,o,p,fun k l=>⟨j k (f k l).1,(f k l).2⟩,fun k l=>⟨j k (i k l).1,(i k l).2⟩,m,r,n,fun x b=>⟨⟨j _ (hu x b).1.1,(hu x b).1.2⟩,(hu x b).2⟩,fun x b=>⟨⟨j _ (hc x b).1.1,(hc x b).1.2⟩,(hc x b).2⟩⟩
theorem RrO.z5a{F:Nat->Prop}{q p b:Nat}{s:Sh}{t:Rr}{m:Mem}{w:World}(h:RrO F w q s t){f:Fe}(l:t.free=some f)(Y:zaq w p b m)(N:¬ F p)(hb:¬ F b)(T:Fits s m)(U:feOk s f)(hs:m.st<1000000000):
  ∃ q2,w.cell? ⟨q,5,.none⟩=some (.pointer (some ⟨q2,0,.none⟩))/\Calls Tryz.prog 199 #[.pointer (some ⟨q2,0,.none⟩),some p] w fun e w'=>zef F p b w w' e (zca s f m).2/\RrO (grow F w w') w' q s {t with free:=some (zca s f m).1}:=by
 obtain⟨H,h1,q1,q2,q3,q4,R,D,o,j,z,X,M,hu,hc⟩:=h;have c5:=ce (ptrV t.free q2) (z.cell 5);rw[l]at c5;refine⟨q2,c5,(zw0 (M f l) Y (fun e=>N (j p e).1) (fun e=>hb (j b e).1) T U hs).mono fun e w' hS=>?_⟩;obtain⟨y,S⟩:=hS;have O:=y.only.size;have V:¬ (D q\/q=p\/q=b):=by
  rintro(e|e|e)
  ·exact(j q e).2.1 rfl
  ·exact N (e ▸ h1)
  exact hb (e ▸ h1)
 have n:∀ k,F k->¬ D k->¬ (D k\/k=p\/k=b):=fun k i C e=>by
  rcases e with e|e|e
  ·exact C e
  ·exact N (e ▸ i)
  exact hb (e ▸ i)
 have G:∀ k,F k->¬ D k->¬ grow D w w' k:=fun k i C e=>by
  rcases e with e|e
  ·exact C e
  have:=H k i;omega
 refine⟨⟨y.ret,y.wds,y.only.weak fun k i=>i.imp (fun e=>(j k e).1) id⟩,zec H O,.inl h1,q1,q2,q3,q4,R,grow D w w',fun k i=>⟨.inl (o k i).1,(o k i).2⟩,fun k i=>?_,?_,?_,?_,?_,?_⟩
 ·rcases i with i|i
  ·exact⟨.inl (j k i).1,(j k i).2⟩
  exact⟨.inr i,fun e=>by have:=H q h1;omega,fun e=>by have:=H k (o k e).1;omega⟩
 ·have:=z.only y.only V;rw[l]at this;exact this
 ·intro x r;exact(X x r).only y.only (fun k i=>n k (o k i).1 (fun e=>(j k e).2.2 i))
 ·intro x r;injection r with r;subst r;exact S
 ·intro x r;obtain⟨⟨B,I,J,E⟩,L⟩:=hu x r;exact⟨⟨.inl B,I,J,G _ B E⟩,L.only y.only (n _ B E)⟩
 intro x r;obtain⟨⟨B,I,J,E⟩,L⟩:=hc x r;exact⟨⟨.inl B,I,J,G _ B E⟩,L.only y.only (n _ B E)⟩
theorem RrO.z5y{F:Nat->Prop}{q p b:Nat}{s:Sh}{t:Rr}{m:Mem}{w:World}(h:RrO F w q s t){u:Un}(y:t.undo=some u)(D:t.com=none)(V:zaq w p b m)(E:¬ F p)(hb:¬ F b)(R:Fits s m)(S:unOk s u)(hs:m.st<1000000000):
  ∃ q3,w.cell? ⟨q,6,.none⟩=some (.pointer (some ⟨q3,0,.none⟩))/\Calls Tryz.prog 213 #[.pointer (some ⟨q3,0,.none⟩),some p] w fun e w'=>zef F p b w w' e (zcf s u m).2/\RrO (grow F w w') w' q s {t with undo:=some (zcf s u m).1}:=by
 obtain⟨O,h1,q1,q2,q3,q4,L,M,o,r,n,U,B,hu,hc⟩:=h;have c5:=ce (ptrV t.undo q3) (n.cell 6);rw[y]at c5;obtain⟨⟨z,H,I,J⟩,N⟩:=hu u y;refine⟨q3,c5,(zyo q3 p b s u m w N V (fun e=>E (e ▸ z)) (fun e=>hb (e ▸ z)) R S hs).mono fun e w' hS=>?_⟩;have G:=hS.only.size;have T:¬ (q=q3\/q=p\/q=b):=by
  rintro(e|e|e)
  ·exact H e.symm
  ·exact E (e ▸ h1)
  exact hb (e ▸ h1)
 have l:∀ k,F k->k≠q3->¬ (k=q3\/k=p\/k=b):=fun k i C e=>by
  rcases e with e|e|e
  ·exact C e
  ·exact E (e ▸ i)
  exact hb (e ▸ i)
 refine⟨⟨hS.ret,hS.wds,hS.only.weak fun k i=>i.imp (fun e=>by rw[e];exact z) id⟩,zec O G,.inl h1,q1,q2,q3,q4,L,M,fun k i=>⟨.inl (o k i).1,(o k i).2⟩,fun k i=>⟨.inl (r k i).1,(r k i).2⟩,?_,?_,?_,?_,?_⟩
 ·have:=n.only hS.only T;rw[y]at this;exact this
 ·intro x j;exact(U x j).only hS.only (fun k i=>l k (o k i).1 (fun e=>I (e ▸ i)))
 ·intro x j;exact(B x j).only hS.only (fun k i=>l k (r k i).1 (fun e=>J (e ▸ i)))
 ·intro x j;injection j with j;subst j;exact⟨⟨.inl z,H,I,J⟩,hS.row⟩
 intro x j;exact absurd j (by rw[D];exact fun e=>by cases e)
theorem RrO.z9y{F:Nat->Prop}{q p b:Nat}{s:Sh}{t:Rr}{m:Mem}{w:World}(h:RrO F w q s t){u:Cm}(y:t.com=some u)(D:t.undo=none)(V:zaq w p b m)(E:¬ F p)(hb:¬ F b)(R:Fits s m)(S:cmOk s u)(hs:m.st<1000000000):
  ∃ q3,w.cell? ⟨q,7,.none⟩=some (.pointer (some ⟨q3,0,.none⟩))/\Calls Tryz.prog 182 #[.pointer (some ⟨q3,0,.none⟩),some p] w fun e w'=>zef F p b w w' e (zb3 s u m).2/\RrO (grow F w w') w' q s {t with com:=some (zb3 s u m).1}:=by
 obtain⟨O,h1,q1,q2,q3,q4,L,M,o,r,n,U,B,hu,hc⟩:=h;have c5:=ce (ptrV t.com q4) (n.cell 7);rw[y]at c5;obtain⟨⟨z,H,I,J⟩,N⟩:=hc u y;refine⟨q4,c5,(zou q4 p b s u m w N V (fun e=>E (e ▸ z)) (fun e=>hb (e ▸ z)) R S hs).mono fun e w' hS=>?_⟩;have G:=hS.only.size;have T:¬ (q=q4\/q=p\/q=b):=by
  rintro(e|e|e)
  ·exact H e.symm
  ·exact E (e ▸ h1)
  exact hb (e ▸ h1)
 have l:∀ k,F k->k≠q4->¬ (k=q4\/k=p\/k=b):=fun k i C e=>by
  rcases e with e|e|e
  ·exact C e
  ·exact E (e ▸ i)
  exact hb (e ▸ i)
 refine⟨⟨hS.ret,hS.wds,hS.only.weak fun k i=>i.imp (fun e=>by rw[e];exact z) id⟩,zec O G,.inl h1,q1,q2,q3,q4,L,M,fun k i=>⟨.inl (o k i).1,(o k i).2⟩,fun k i=>⟨.inl (r k i).1,(r k i).2⟩,?_,?_,?_,?_,?_⟩
 ·have:=n.only hS.only T;rw[y]at this;exact this
 ·intro x j;exact(U x j).only hS.only (fun k i=>l k (o k i).1 (fun e=>I (e ▸ i)))
 ·intro x j;exact(B x j).only hS.only (fun k i=>l k (r k i).1 (fun e=>J (e ▸ i)))
 ·intro x j;exact absurd j (by rw[D];exact fun e=>by cases e)
 intro x j;injection j with j;subst j;exact⟨⟨.inl z,H,I,J⟩,hS.row⟩
end

section

open Go.RowKit

attribute [local go_sem ↓] Go.wp_at_zero Go.wp_at_succ

theorem zp0{F:Nat->Prop}{q p b:Nat}{s:Sh}{r:Rr}{m:Mem}{w j i:World}{t:Ending}(y:∀ k,F k->k<w.heap.size)(o:F q)(B:¬ F p)(hb:¬ F b)(l:zef F p b w j t m)(n:Only (fun k=>k=q) j i)(z:RrO (grow (grow F w j) j i) i q s r):
  zef F p b w i (.returned (.tuple #[])) m/\RrO (grow F w i) i q s r:=by
 have h1:=l.only.size;have h2:=n.size;refine⟨⟨rfl,l.wds.only n (fun e=>B (e ▸ o)) (fun e=>hb (e ▸ o)),l.only.trans n (fun k _ e=>.inl (by rw[e];exact o))⟩,z.weak (fun k f=>?_) (zec y (Nat.le_trans h1 h2))⟩;rcases f with(f|f)|f
 ·exact .inl f
 ·exact .inr ⟨f.1,Nat.lt_of_lt_of_le f.2 h2⟩
 exact .inr ⟨Nat.le_trans h1 f.1,f.2⟩
theorem RrO.zv1{F:Nat->Prop}{q q1:Nat}{s:Sh}{t:Rr}{w:World}(h:RrO F w q s t){r:Rs}(b:t.res=some r)(c:w.cell? ⟨q,4,.none⟩=some (.pointer (some ⟨q1,0,.none⟩))):
  Calls Tryz.prog 124 #[some q1] w fun e w'=>e= .returned (.bool r.done)/\w'=w:=by
 obtain⟨p,h1,q2,_,_,_,n,o,j,l,i,m,_⟩:=h;have c4:=ce (ptrV t.res q2) (i.cell 4);rw[b]at c4;have e:q1=q2:=by have:=c.symm.trans c4;simpa[ptrV] using this
 subst e;exact zil (m r b)
theorem RrO.zxj{F:Nat->Prop}{q q1:Nat}{s:Sh}{t:Rr}{w:World}(h:RrO F w q s t){f:Fe}(b:t.free=some f)(c:w.cell? ⟨q,5,.none⟩=some (.pointer (some ⟨q1,0,.none⟩))):
  Calls Tryz.prog 125 #[some q1] w fun e w'=>e= .returned (.bool f.done)/\w'=w:=by
 obtain⟨p,h1,_,q2,_,_,n,o,j,l,i,_,m,_⟩:=h;have c4:=ce (ptrV t.free q2) (i.cell 5);rw[b]at c4;have e:q1=q2:=by have:=c.symm.trans c4;simpa[ptrV] using this
 subst e;obtain⟨_,q3,h3,_⟩:=m f b;exact zkw q1 _ f.done w h3.row rfl
theorem RrO.cells{F:Nat->Prop}{q:Nat}{s:Sh}{t:Rr}{w:World}(h:RrO F w q s t):∃ q1 q2 q3 q4,w.cell? ⟨q,4,.none⟩=some (ptrV t.res q1)/\w.cell? ⟨q,5,.none⟩=some (ptrV t.free q2)/\w.cell? ⟨q,6,.none⟩=some (ptrV t.undo q3)/\w.cell? ⟨q,7,.none⟩=some (ptrV t.com q4)/\w.cell? ⟨q,9,.none⟩=some (.bool t.done):=by
 obtain⟨m,h1,q1,q2,q3,q4,j,l,f,i,b,_⟩:=h;exact⟨q1,q2,q3,q4,b.cell 4,b.cell 5,b.cell 6,b.cell 7,b.cell 9⟩
theorem zza{F:Nat->Prop}{q p b:Nat}{s:Sh}{t:Rr}{m:Mem}{w:World}(h:RrO F w q s t)(hw:zaq w p b m)(hp:¬ F p)(hb:¬ F b)(X:Fits s m)(ho:rrOk s t)(hs:m.st<1000000000):
  Calls Tryz.prog 212 #[some q,some p] w fun e w'=>zef F p b w w' e (zb9 s t m).2/\RrO (grow F w w') w' q s (zb9 s t m).1:=by
 obtain⟨y1,y2,q5,q6,z4,z5,c6,c7,c9⟩:=h.cells;clear z4 z5 y1 y2;rcases Bool.eq_false_or_eq_true t.done with hd|hd
 ·have N:zb9 s t m=(t,m):=by unfold zb9;rw[if_pos hd]
  rw[N];rw[hd]at c9;have y:=hd' (h.weak (G:=grow F w w) (fun k hk=>.inl hk) (zec h.1 lr));clear h N hd ho X c6 c7;go_in;go_wp2_with fail;go_returns;exact⟨⟨rfl,hw,Only.refl _ _⟩,y.out⟩
 obtain⟨r,f,j,i,T,R,U,O,S,D⟩:=ho.cl hd;rw[hd]at c9;have hF:=h.1;have hq:=h.2.1;rcases Bool.eq_false_or_eq_true r.done with z|z;case inr=>
  have N:zb9 s t m=(Rr.settle s {t with res:=some (zb0 s r m).1},(zb0 s r m).2):=by unfold zb9;simp[hd,j,i,z]
  rw[N];obtain⟨q1,c4,o⟩:=h.zuw j hw hp hb X T hs;have n:=h.zv1 j c4;rw[z]at n;have C:=hd' (fun (Y:World) (G:Nat->Prop) (B:RrO G Y q s {t with res:=some (zb0 s r m).1})=>B.settled rfl i);have y:=hd' (fun (Y Z:World) (e:Ending) (H:zef F p b w Y e (zb0 s r m).2) (hZ:Only (fun k=>k=q) Y Z) (B:RrO (grow (grow F w Y) Y Z) Z q s (Rr.settle s {t with res:=some (zb0 s r m).1}))=>zp0 hF hq hp hb H hZ B);replace o:=hd' o;replace n:=hd' n;clear h N hd ho X c6 c7 j i T R U O S D z hw hF hq;go_in;go_wp2_with (first|(go_at_call 124;(with_reducible refine n.out.mono ?_);rintro r w2 ⟨rfl,M⟩;obtain rfl:=M.symm)|(go_at_call 181;(with_reducible refine o.out.mono ?_);rintro r w3 ⟨H,B⟩;obtain rfl:=H.ret)|(go_at_call 108;(with_reducible refine(C.out _ _ B).mono ?_);rintro r w4 ⟨rfl,L,J⟩));go_returns;exact y.out _ _ _ H L J
 rcases Bool.eq_false_or_eq_true f.done with E|E;case inr=>
  have N:zb9 s t m=(Rr.settle s {t with free:=some (zca s f m).1},(zca s f m).2):=by unfold zb9;simp[hd,j,i,z,E]
  rw[N];obtain⟨q2,c5,o⟩:=h.z5a i hw hp hb X R hs;have l:=h.zxj i c5;rw[E]at l;obtain⟨q1,y2,y3,y4,c4,z5⟩:=h.cells;clear z5 y2 y3 y4;rw[j]at c4;replace c4:w.cell? ⟨q,4,.none⟩=some (.pointer (some ⟨q1,0,.none⟩)):=c4;have n:=h.zv1 j c4;rw[z]at n;have C:=hd' (fun (Y:World) (G:Nat->Prop) (B:RrO G Y q s {t with free:=some (zca s f m).1})=>B.settled j rfl);have y:=hd' (fun (Y Z:World) (e:Ending) (H:zef F p b w Y e (zca s f m).2) (hZ:Only (fun k=>k=q) Y Z) (B:RrO (grow (grow F w Y) Y Z) Z q s (Rr.settle s {t with free:=some (zca s f m).1}))=>zp0 hF hq hp hb H hZ B);replace o:=hd' o;replace n:=hd' n;replace l:=hd' l;clear h N hd ho X c6 c7 j i T R U O S D z hw hF hq E;go_in;go_wp2_with (first|(go_at_call 124;(with_reducible refine n.out.mono ?_);rintro r w2 ⟨rfl,M⟩;obtain rfl:=M.symm)|(go_at_call 125;(with_reducible refine l.out.mono ?_);rintro r w5 ⟨rfl,V⟩;obtain rfl:=V.symm)|(go_at_call 199;(with_reducible refine o.out.mono ?_);rintro r w3 ⟨H,B⟩;obtain rfl:=H.ret)|(go_at_call 108;(with_reducible refine(C.out _ _ B).mono ?_);rintro r w4 ⟨rfl,L,J⟩));go_returns;exact y.out _ _ _ H L J
 obtain⟨q1,q2,y3,y4,c4,c5,z6⟩:=h.cells;clear z6 y3 y4;rw[j]at c4;rw[i]at c5;replace c4:w.cell? ⟨q,4,.none⟩=some (.pointer (some ⟨q1,0,.none⟩)):=c4;replace c5:w.cell? ⟨q,5,.none⟩=some (.pointer (some ⟨q2,0,.none⟩)):=c5;have n:=h.zv1 j c4;have l:=h.zxj i c5;rw[z]at n;rw[E]at l;replace n:=hd' n;replace l:=hd' l;rcases hun:t.undo with _|u
 ·obtain⟨u,I⟩:∃ u,t.com=some u:=by
   rcases D z E with e|e
   ·exact absurd hun e
   rcases hc:t.com with _|u
   ·exact absurd hc e
   exact⟨u,rfl⟩
  have N:zb9 s t m=(Rr.settle s {t with com:=some (zb3 s u m).1},(zb3 s u m).2):=by unfold zb9;simp[hd,j,i,z,E,hun,I]
  rw[N];obtain⟨q3,cx,o⟩:=h.z9y I hun hw hp hb X (O u I) hs;have C:=hd' (fun (Y:World) (G:Nat->Prop) (B:RrO G Y q s {t with com:=some (zb3 s u m).1})=>B.settled j i);have y:=hd' (fun (Y Z:World) (e:Ending) (H:zef F p b w Y e (zb3 s u m).2) (hZ:Only (fun k=>k=q) Y Z) (B:RrO (grow (grow F w Y) Y Z) Z q s (Rr.settle s {t with com:=some (zb3 s u m).1}))=>zp0 hF hq hp hb H hZ B);replace o:=hd' o;rw[hun]at c6;replace c6:w.cell? ⟨q,6,.none⟩=some (.pointer none):=c6;clear h N hd ho X c7 j i T R U O S D z hw hF hq E hun I;go_in;go_wp2_with (first|(go_at_call 124;(with_reducible refine n.out.mono ?_);rintro r w2 ⟨rfl,M⟩;obtain rfl:=M.symm)|(go_at_call 125;(with_reducible refine l.out.mono ?_);rintro r w5 ⟨rfl,V⟩;obtain rfl:=V.symm)|(go_at_call 182;(with_reducible refine o.out.mono ?_);rintro r w3 ⟨H,B⟩;obtain rfl:=H.ret)|(go_at_call 108;(with_reducible refine(C.out _ _ B).mono ?_);rintro r w4 ⟨rfl,L,J⟩));go_returns;exact y.out _ _ _ H L J
 have I:t.com=none:=by
  rcases S with e|e
  ·rw[hun]at e;cases e
  exact e
 have N:zb9 s t m=(Rr.settle s {t with undo:=some (zcf s u m).1},(zcf s u m).2):=by unfold zb9;simp[hd,j,i,z,E,hun,I]
 rw[N];obtain⟨q3,cx,o⟩:=h.z5y hun I hw hp hb X (U u hun) hs;have C:=hd' (fun (Y:World) (G:Nat->Prop) (B:RrO G Y q s {t with undo:=some (zcf s u m).1})=>B.settled j i);have y:=hd' (fun (Y Z:World) (e:Ending) (H:zef F p b w Y e (zcf s u m).2) (hZ:Only (fun k=>k=q) Y Z) (B:RrO (grow (grow F w Y) Y Z) Z q s (Rr.settle s {t with undo:=some (zcf s u m).1}))=>zp0 hF hq hp hb H hZ B);replace o:=hd' o;rw[hun]at c6;clear c6;clear h N hd ho X c7 j i T R U O S D z hw hF hq E hun I;go_in;go_wp2_with (first|(go_at_call 124;(with_reducible refine n.out.mono ?_);rintro r w2 ⟨rfl,M⟩;obtain rfl:=M.symm)|(go_at_call 125;(with_reducible refine l.out.mono ?_);rintro r w5 ⟨rfl,V⟩;obtain rfl:=V.symm)|(go_at_call 213;(with_reducible refine o.out.mono ?_);rintro r w3 ⟨H,B⟩;obtain rfl:=H.ret)|(go_at_call 108;(with_reducible refine(C.out _ _ B).mono ?_);rintro r w4 ⟨rfl,L,J⟩));go_returns;exact y.out _ _ _ H L J
end

section

theorem z6z(s:Sh)(c n f:Int):(∀ x,(zdh s c n f).seeker=some x->skOk s x)/\(∀ x,(zdh s c n f).runner=some x->rnOk s x):=by
 unfold zdh;split
 ·exact⟨fun x b=>(by injection b with b;subst b;exact zwd _ _ _ _),fun x b=>(by cases b)⟩
 split
 ·exact⟨fun x b=>(by cases b),fun x b=>(by injection b with b;subst b;exact zwt _ _ _)⟩
 exact⟨fun x b=>(by cases b),fun x b=>(by cases b)⟩
theorem zm9{s:Sh}{t:Rr}{r:Rs}{f:Fe}(j:t.res=some r)(i:t.free=some f)(m:(∀ x,r.seeker=some x->skOk s x)/\(∀ x,r.runner=some x->rnOk s x))(l:feOk s f)(o:∀ u,t.undo=some u->unOk s u)(n:∀ u,t.com=some u->cmOk s u)(p:t.undo=none\/t.com=none):rrOk s (t.settle s):=by
 rcases zcp s t r f j i with⟨_,e⟩|⟨_,_,e⟩|⟨_,_,h3,e⟩|⟨_,_,_,_,e⟩|⟨b,_,_,_,_,B,e⟩|⟨b,_,_,_,_,q,y,_,_,e⟩|⟨b,_,_,_,_,q,y,_,_,e⟩;all_goals rw[e]
 ·exact⟨fun h=>by cases h⟩
 ·exact⟨fun h=>by cases h⟩
 ·exact⟨fun _=>⟨r,f,j,i,m,l,o,n,p,fun h=>by rw[h3]at h;cases h⟩⟩
 ·exact⟨fun h=>by cases h⟩
 ·refine⟨fun _=>⟨r,f,j,i,m,l,o,n,p,fun _ z=>?_⟩⟩;rcases B with h|⟨_,h⟩|⟨_,_,h⟩
  ·exact .inl h
  ·exact .inr h
  rw[h]at z;cases z
 ·exact⟨fun _=>⟨r,f,j,i,m,l,o,fun u hu=>by injection hu with hu;subst hu;exact zpt _ _ _,.inl q,fun _ _=>.inr (fun h=>by cases h)⟩⟩
 exact⟨fun _=>⟨r,f,j,i,m,l,fun u hu=>by injection hu with hu;subst hu;exact z8l _ _ _,n,.inr y,fun _ _=>.inl (fun h=>by cases h)⟩⟩
theorem z4q(s:Sh)(c a n first:Int):rrOk s (zhh s c a n first):=by
 unfold zhh;split
 ·exact zm9 rfl rfl (z6z _ _ _ _) (zwa _ _ _) (fun u hu=>by cases hu) (fun u hu=>by cases hu) (.inl rfl)
 exact⟨fun h=>by cases h⟩
end

section

open Go.RowKit

attribute [local go_sem ↓] Go.wp_at_zero Go.wp_at_succ

def zk7 (w w':World) (e:Ending) (s:Sh) (t:Rr):Prop:=∃ q,e= .returned (.pointer (some ⟨q,0,.none⟩))/\RrO (fun k=> w.heap.size<=k/\k < w'.heap.size) w' q s t/\Below w.heap.size w w'
theorem zk7.bare{w w':World}{q:Nat}{s:Sh}{t:Rr}(h1:w.heap.size<=q)(hb:Below w.heap.size w w')(n:zaa w' q (zby s t (.pointer none) (.pointer none) (.pointer none) (.pointer none)) 219)
  (i:t.res=none) (j:t.free=none) (l:t.undo=none) (m:t.com=none):zk7 w w' (.returned (.pointer (some ⟨q,0,.none⟩))) s t:=by
 refine⟨q,rfl,⟨fun k f=>f.2,⟨h1,n.lt⟩,0,0,0,0,fun _=>False,fun _=>False,fun k f=>f.elim,fun k f=>f.elim,?_,?_,?_,?_,?_⟩,hb⟩
 ·rw[i,j,l,m];exact n
 ·intro x b;rw[i]at b;cases b
 ·intro x b;rw[j]at b;cases b
 ·intro x b;rw[l]at b;cases b
 intro x b;rw[m]at b;cases b
theorem RrO.join{w Y:World}{q q1 q2:Nat}{s:Sh}{c:Int}{r:Rs}{f:Fe}{n o:Nat->Prop}(h1:w.heap.size<=q)(hb:Below w.heap.size w Y)(l:zaa Y q (zby s ⟨c,none,none,none,none,0,false⟩ (.pointer (some ⟨q1,0,.none⟩)) (.pointer (some ⟨q2,0,.none⟩)) (.pointer none) (.pointer none)) 219)
  (y:RsO n Y q1 s r) (p:FeO o Y q2 s f) (m:∀ k,n k->q<k/\k<Y.heap.size) (j:∀ k,o k->(q<k/\k<Y.heap.size)/\¬ n k):
  RrO (fun k=>w.heap.size<=k/\k<Y.heap.size) Y q s ⟨c,some r,some f,none,none,0,false⟩:=
 ⟨fun k i=>i.2,⟨h1,l.lt⟩,q1,q2,0,0,n,o,fun k i=>⟨⟨by have:=(m k i).1;omega,(m k i).2⟩,by have:=(m k i).1;omega⟩,fun k i=>⟨⟨by have:=(j k i).1.1;omega,(j k i).1.2⟩,by have:=(j k i).1.1;omega,(j k i).2⟩,l,fun x b=>(by injection b with b;subst b;exact y),fun x b=>(by injection b with b;subst b;exact p),fun x b=>(by cases b),fun x b=>(by cases b)⟩
theorem zws{Y:World}{q:Nat}{s:Sh}{c a:Int}(h:zaa Y q (za7 s (zc2 s c a) (.pointer none)) 216):FeO (fun k=>k=q) Y q s (zc2 s c a):=
 ⟨rfl,0,⟨h,fun x b=>(by cases b)⟩,fun h=>absurd rfl h⟩
theorem size_set(w:World)(a:Addr)(v:Value):(w.setCell a v).heap.size=w.heap.size:=by simp[World.setCell]
theorem RsO.setK{F:Nat->Prop}{w:World}{q K:Nat}{s:Sh}{t:Rs}(h:RsO F w q s t)(b:¬ F K)(i:Nat)(v:Value):RsO F (w.setCell ⟨K,i,.none⟩ v) q s t:=
 h.only (Only.setCell (F:=fun k=>k=K) (Only.refl _ _) (.inl rfl) _) (fun k f e=>b (e ▸ f))
theorem RsO.bel{F:Nat->Prop}{w w':World}{q:Nat}{s:Sh}{t:Rs}(h:RsO F w q s t)(hb:Below w.heap.size w w'):RsO F w' q s t:=h.only (Only.of_below (F:=fun _=>False) hb) (fun _ _ e=>e)
theorem z3p(s:Sh)(c a n f:Int)(w:World):
  Calls Tryz.prog 90 #[.agg #[s.p,s.c,s.m],c,a,n,f] w fun e w'=>zk7 w w' e s (zhh s c a n f):=by
 have X:=fun W=>zxk s a W;have b5:=fun W=>zo1 n W;have M:=fun W=>zau s.p s.c s.m c W;have o:=fun k Y (hY:zaa Y k (zby s ⟨c,none,none,none,none,0,false⟩ (.pointer none) (.pointer none) (.pointer none) (.pointer none)) 219)=>zsi k s ⟨c,none,none,none,none,0,false⟩ _ _ _ _ 1 Y hY;have b9:=fun W=>ztd s c n f W;have b7:=fun W=>zq9 s c a W;have J:∀ (Y:World) (G:Nat->Prop) (k:Nat),RrO G Y k s ⟨c,some (zdh s c n f),some (zc2 s c a),none,none,0,false⟩->_:=fun Y G k h=>h.settled rfl rfl;have D:∀ (Y:World) (q q1 q2:Nat) (F1 F2:Nat->Prop),_->_->_->_->_->_->_->_:=fun Y q q1 q2 F1 F2=>@RrO.join w Y q q1 q2 s c (zdh s c n f) (zc2 s c a) F1 F2;have b6:∀ (Y:World) (q:Nat),zaa Y q (za7 s (zc2 s c a) (.pointer none)) 216->_:=fun Y q h=>zws h;obtain⟨t2,b,bb⟩:∃ t2:Rr,Hid (t2=if spB s a=true/\lenB n=true/\0<=zae s.p s.c s.m c then Rr.settle s ⟨c,some (zdh s c n f),some (zc2 s c a),none,none,0,false⟩ else⟨c,none,none,none,none,1,true⟩)/\t2=zhh s c a n f:=⟨_,hd' rfl,rfl⟩;rw[<-bb];clear bb;generalize zdh s c n f=bw at *;generalize bu:zc2 s c a=bf at *;clear bu;generalize zae s.p s.c s.m c=sx at *;generalize spB s a=I at *;generalize lenB n=ba at *;generalize lenV n=ln at *;generalize (if I=true then a/64 else 0)=pg at *;generalize (if I=true then a%64 else 0)=cr at *;obtain⟨sp,i,j⟩:=s;dsimp only at X M b9 b7;replace X:=hd' X;replace b5:=hd' b5;replace M:=hd' M;replace o:=hd' o;replace b9:=hd' b9;replace b7:=hd' b7;replace J:=hd' J;replace D:=hd' D;replace b6:=hd' b6;have bs:=(Below.refl w.heap.size w).alloc lr (.cells #[sp,i,j] 23);have t0:=heap_alloc_new w (.cells #[sp,i,j] 23);go_in;go_upto_region 1 with fail;generalize w.alloc (.cells #[sp,i,j] 23)=W at *;obtain⟨H,hH,bg⟩:=hidv w.heap.size;rw[<-bg]at t0 ⊢;have b8:zaa W H #[sp,i,j] 23:=t0;have lH:H<W.heap.size:=b8.lt;obtain⟨c0,c1,c2⟩:=ci3 sp i j b8.cell;have cj:w.heap.size<=H:=by omega
 clear t0 bg;go_upto_region 4 with(first|(go_at_call 85;(with_reducible refine(X.out _).mono ?_);rintro r w1 ⟨rfl,bc⟩;have N:=b8.below bc;have d0:=ci sp (N.cell 0);have d1:=ci i (N.cell 1);have d2:=ci j (N.cell 2))|(go_at_call 84;(with_reducible refine(b5.out _).mono ?_);rintro r w2 ⟨rfl,cb⟩;obtain rfl:=cb.symm));have b4:=zab bs bc;have hr:zaa (w1.alloc (.cells (zby ⟨sp,i,j⟩ ⟨c,none,none,none,none,0,false⟩ (.pointer none) (.pointer none) (.pointer none) (.pointer none)) 219)) w1.heap.size (zby ⟨sp,i,j⟩ ⟨c,none,none,none,none,0,false⟩ (.pointer none) (.pointer none) (.pointer none) (.pointer none)) 219:=heap_alloc_new _ _;have E:=b4.trans ((Below.refl w.heap.size w1).alloc b4.size (.cells (zby ⟨sp,i,j⟩ ⟨c,none,none,none,none,0,false⟩ (.pointer none) (.pointer none) (.pointer none) (.pointer none)) 219));have b0:=N.alloc (.cells (zby ⟨sp,i,j⟩ ⟨c,none,none,none,none,0,false⟩ (.pointer none) (.pointer none) (.pointer none) (.pointer none)) 219);have y:H≠w1.heap.size:=fun e=>by have:=N.lt;omega
 have l:w.heap.size<=w1.heap.size:=b4.size;dsimp only[zby]at hr E b0 o;generalize w1.alloc (.cells #[sp,i,j,c,.pointer none,.pointer none,.pointer none,.pointer none,.int .i64 0,.bool false] 219)=V at *;obtain⟨K,hK,bh⟩:=hidv w1.heap.size;rw[<-bh]at hr y l ⊢;have cc:H<V.heap.size:=b0.lt;have cd:K<V.heap.size:=hr.lt;clear bh d0 d1 d2 c0 c1 c2 lH b8 bs b4 bc N;obtain⟨c0,c1,c2⟩:=ci3 sp i j b0.cell;have c8:(I=false/\t2=⟨c,none,none,none,none,1,true⟩)\/(I=true/\ba=false/\t2=⟨c,none,none,none,none,1,true⟩)\/(I=true/\ba=true/\decide (sx<0)=true/\t2=⟨c,none,none,none,none,1,true⟩)\/(I=true/\ba=true/\decide (sx<0)=false/\t2=Rr.settle ⟨sp,i,j⟩ ⟨c,some bw,some bf,none,none,0,false⟩):=by
  rw[b.out];cases I
  ·exact .inl ⟨rfl,if_neg (by simp)⟩
  cases ba
  ·exact .inr (.inl ⟨rfl,rfl,if_neg (by simp)⟩)
  by_cases h:sx<0
  ·exact .inr (.inr (.inl ⟨rfl,rfl,decide_eq_true h,if_neg (by simp;omega)⟩))
  exact .inr (.inr (.inr ⟨rfl,rfl,decide_eq_false h,if_pos ⟨rfl,rfl,by omega⟩⟩))
 clear b;rcases c8 with⟨rfl,b⟩|⟨rfl,rfl,b⟩|⟨rfl,rfl,h1,b⟩|⟨rfl,rfl,h1,b⟩;case inl=>replace b:=hd' b;go_wp2_with (go_at_call 107;(with_reducible refine(o.out _ _ hr).mono ?_);rintro r w3 U;obtain rfl:=U.ret);go_returns;rw[b.out];exact zk7.bare l (E.trans (U.only.below E.size fun k B=>by rw[B];exact l)) U.row rfl rfl rfl rfl
 case inr.inl=>replace b:=hd' b;go_wp2_with (go_at_call 107;(with_reducible refine(o.out _ _ hr).mono ?_);rintro r w3 U;obtain rfl:=U.ret);go_returns;rw[b.out];exact zk7.bare l (E.trans (U.only.below E.size fun k B=>by rw[B];exact l)) U.row rfl rfl rfl rfl
 case inr.inr.inl=>replace b:=hd' b;go_wp2_with (first|(go_at_call 22;(with_reducible refine(M.out _).mono ?_);rintro r w4 ⟨rfl,F⟩;have ca:=hr.below F)|(go_at_call 107;(with_reducible refine(o.out _ _ ca).mono ?_);rintro r w3 U;obtain rfl:=U.ret));go_returns;rw[b.out];have b3:=zab E F;exact zk7.bare l (b3.trans (U.only.below b3.size fun k B=>by rw[B];exact l)) U.row rfl rfl rfl rfl
 case inr.inr.inr=>
  replace b:=hd' b;go_upto_region 7 with(first|(go_at_call 22;(with_reducible refine(M.out _).mono ?_);rintro r w4 ⟨rfl,F⟩));have bz:=hr.below F;have bx:=b0.below F;have b3:=zab E F;clear hr b0 E F c0 c1 c2 cc cd o X b5 M
  have b1:=hd' (fun (Z:World) (q1 q2:Nat) (F1:Nat->Prop) (hb:Below w.heap.size w Z) (bv:zaa Z K (zby ⟨sp,i,j⟩ ⟨c,none,none,none,none,0,false⟩ (.pointer (some ⟨q1,0,.none⟩)) (.pointer (some ⟨q2,0,.none⟩)) (.pointer none) (.pointer none)) 219) (h1:RsO F1 Z q1 ⟨sp,i,j⟩ bw) (h2:zaa Z q2 (za7 ⟨sp,i,j⟩ bf (.pointer none)) 216) (h3:∀ k,F1 k->K<k/\k<Z.heap.size) (h4:K<q2/\¬ F1 q2)=>
   ((J.out Z _ K (D.out Z K q1 q2 F1 (fun k=>k=q2) l hb bv h1 (b6.out Z q2 h2) h3 (fun k B=>by subst B;exact⟨⟨h4.1,h2.lt⟩,h4.2⟩))).mono (fun e w' hE=>(⟨hE.1,K,rfl,by
    have hs:=hE.2.1.size
    refine(b.out ▸ hE.2.2).weak (fun k B=>?_) (fun k B=>B.2)
    rcases B with B|B
    ·exact⟨B.1,Nat.lt_of_lt_of_le B.2 hs⟩
    ·exact⟨Nat.le_trans hb.size B.1,B.2⟩,hb.trans (hE.2.1.below hb.size fun k B=>by rw[B];exact l)⟩:e= .returned (.tuple #[])/\zk7 w w' (.returned (.pointer (some ⟨K,0,.none⟩))) ⟨sp,i,j⟩ t2)):Calls Tryz.prog 108 #[some K] Z fun e w'=>e= .returned (.tuple #[])/\zk7 w w' (.returned (.pointer (some ⟨K,0,.none⟩))) ⟨sp,i,j⟩ t2))
  clear J D b6 b;have c7:Below w.heap.size w w4.drew:=b3.drew;have b2:=bx.drew;have L:=bz.drew;have cp:H<w4.drew.heap.size:=b2.lt;have cq:K<w4.drew.heap.size:=L.lt;have c4:=ce (.pointer none) (L.cell 4);have c5:=ce (.pointer none) (L.cell 5);have hS:=hd' (fun (Y:World) (h:zaa Y H #[sp,i,j] 23)=>(⟨h.cell 0,h.cell 1,h.cell 2⟩:Y.cell? ⟨H,0,.none⟩=some (.int .i64 sp)/\Y.cell? ⟨H,1,.none⟩=some (.int .i64 i)/\Y.cell? ⟨H,2,.none⟩=some (.int .i64 j)));have ck:K≠H:=fun e=>y e.symm
  go_region_held3 (fun Y=>Y.cell? ⟨H,0,.none⟩=some (.int .i64 sp)/\Y.cell? ⟨H,1,.none⟩=some (.int .i64 i)/\Y.cell? ⟨H,2,.none⟩=some (.int .i64 j))
   (first|exact hS.out _ b2|exact hS.out _ R|exact hS.out _ O|exact hS.out _ (R.other y _ _)|exact hS.out _ (O.other y _ _)|exact hS.out _ ((R.other y _ _).other y _ _)|exact hS.out _ ((O.other y _ _).other y _ _))
   (first|(go_at_call 88;(with_reducible refine(b9.out _).mono ?_);rintro r wr ⟨q1,rfl,c6,C⟩;have R:zaa wr H #[sp,i,j] 23:=(by first|exact b2.below C|exact O.below C|exact(O.other y _ _).below C);obtain⟨va,vb,T⟩:∃ va vb,zaa wr K #[sp,i,j,c,va,vb,.pointer none,.pointer none,.int .i64 0,.bool false] 219:=(by first|exact⟨_,_,L.below C⟩|exact⟨_,_,S.below C⟩|exact⟨_,_,((S.set 5 _).cast rfl).below C⟩);have z4:=ce va (T.cell 4);have z5:=ce vb (T.cell 5);have zf:=zax T)|(go_at_call 89;(with_reducible refine(b7.out _).mono ?_);rintro r wf ⟨q2,rfl,cm,bk,z⟩;have O:zaa wf H #[sp,i,j] 23:=(by first|exact b2.below z|exact R.below z|exact(R.other y _ _).below z);obtain⟨va,vb,S⟩:∃ va vb,zaa wf K #[sp,i,j,c,va,vb,.pointer none,.pointer none,.int .i64 0,.bool false] 219:=(by first|exact⟨_,_,L.below z⟩|exact⟨_,_,T.below z⟩|exact⟨_,_,((T.set 4 _).cast rfl).below z⟩);have y4:=ce va (S.cell 4);have y5:=ce vb (S.cell 5);have yf:=zax S))
  have cg:=C.size;have ch:=z.size;have cf:=bk.lt;have bi:¬ (w4.drew.heap.size<=K/\K<wr.heap.size):=fun e=>by omega
  have bm:Below w.heap.size w ((wf.setCell ⟨K,4,.none⟩ (.pointer (some ⟨q1,0,.none⟩))).setCell ⟨K,5,.none⟩ (.pointer (some ⟨q2,0,.none⟩))):=((zab (zab c7 C) z).setCell (p:=⟨K,4,.none⟩) l _).setCell (p:=⟨K,5,.none⟩) l _;have bn:=(((L.below C).below z).set 4 (.pointer (some ⟨q1,0,.none⟩))).set 5 (.pointer (some ⟨q2,0,.none⟩));have bp:=((c6.bel z).setK bi 4 (.pointer (some ⟨q1,0,.none⟩))).setK bi 5 (.pointer (some ⟨q2,0,.none⟩));have bj:q2≠K:=fun e=>by omega
  have bq:=(bk.other bj 4 (.pointer (some ⟨q1,0,.none⟩))).other bj 5 (.pointer (some ⟨q2,0,.none⟩));have cl:((wf.setCell ⟨K,4,.none⟩ (.pointer (some ⟨q1,0,.none⟩))).setCell ⟨K,5,.none⟩ (.pointer (some ⟨q2,0,.none⟩))).heap.size=wf.heap.size:=(size_set _ _ _).trans (size_set _ _ _);generalize (wf.setCell ⟨K,4,.none⟩ (.pointer (some ⟨q1,0,.none⟩))).setCell ⟨K,5,.none⟩ (.pointer (some ⟨q2,0,.none⟩))=Z at *;have c9:=hd' (b1.out Z q1 q2 _ bm (bn.cast rfl) bp bq (fun k B=>by omega) ⟨by omega,fun e=>by omega⟩);clear bm bn bp bq b1;go_wp2_with (go_at_call 108;(with_reducible refine c9.out.mono ?_);rintro r w9 ⟨rfl,hB⟩);go_returns;exact hB
end

end Go.Proofs.YtedcnffebdpmmaaGreat
