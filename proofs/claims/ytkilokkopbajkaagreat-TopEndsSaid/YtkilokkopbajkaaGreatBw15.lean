
import Derived.Test.YtkilokkopbajkaaGreatBw12

import Derived.Test.YtkilokkopbajkaaGreatBw13

set_option linter.all false
set_option maxHeartbeats 1000000
set_option maxRecDepth 100000
namespace Go.Proofs.YtkilokkopbajkaaGreat

open RowKit

attribute [local go_sem ↓] wp_at_zero wp_at_succ

attribute [local go_sem] SB IC GD yE fF

section

theorem zxx(q:Nat)(cs:Array Value)(v:Bool)(w:World)(h:aA w q cs 270)(b:cs[11]?=some (.bool v)):Calls Tryz.prog 267 #[some q] w λe w'=>e=.returned (.bool v)/\w'=w:=by
 have c:=(h.cell 11).trans b;clear h b;go_in;go_wp2_with fail;go_returns;exact⟨rfl,rfl⟩
theorem zxw(q:Nat)(cs:Array Value)(v:Bool)(w:World)(h:aA w q cs 318)(b:cs[10]?=some (.bool v)):Calls Tryz.prog 239 #[some q] w λe w'=>e=.returned (.bool v)/\w'=w:=by
 have c:=(h.cell 10).trans b;clear h b;go_in;go_wp2_with fail;go_returns;exact⟨rfl,rfl⟩
theorem z4h(q:Nat)(cs:Array Value)(v:Bool)(w:World)(h:aA w q cs 318)(b:cs[9]?=some (.bool v)):Calls Tryz.prog 238 #[some q] w λe w'=>e=.returned (.bool v)/\w'=w:=by
 have c:=(h.cell 9).trans b;clear h b;go_in;go_wp2_with fail;go_returns;exact⟨rfl,rfl⟩
theorem zyy(q:Nat)(cs:Array Value)(v:Bool)(w:World)(h:aA w q cs 287)(b:cs[10]?=some (.bool v)):Calls Tryz.prog 269 #[some q] w λe w'=>e=.returned (.bool v)/\w'=w:=by
 have c:=(h.cell 10).trans b;clear h b;go_in;go_wp2_with fail;go_returns;exact⟨rfl,rfl⟩
theorem zzg(q:Nat)(cs:Array Value)(v:Bool)(w:World)(h:aA w q cs 289)(b:cs[8]?=some (.bool v)):Calls Tryz.prog 273 #[some q] w λe w'=>e=.returned (.bool v)/\w'=w:=by
 have c:=(h.cell 8).trans b;clear h b;go_in;go_wp2_with fail;go_returns;exact⟨rfl,rfl⟩
theorem vV(q:Nat)(cs:Array Value)(v:Bool)(w:World)(h:aA w q cs 292)(b:cs[9]?=some (.bool v)):Calls Tryz.prog 226 #[some q] w λe w'=>e=.returned (.bool v)/\w'=w:=by
 have c:=(h.cell 9).trans b;clear h b;go_in;go_wp2_with fail;go_returns;exact⟨rfl,rfl⟩
theorem PV(q:Nat)(cs:Array Value)(v:Bool)(w:World)(h:aA w q cs 292)(b:cs[8]?=some (.bool v)):Calls Tryz.prog 183 #[some q] w λe w'=>e=.returned (.bool v)/\w'=w:=by
 have c:=(h.cell 8).trans b;clear h b;go_in;go_wp2_with fail;go_returns;exact⟨rfl,rfl⟩
theorem zyi(q:Nat)(cs:Array Value)(v:Bool)(w:World)(h:aA w q cs 294)(b:cs[8]?=some (.bool v)):Calls Tryz.prog 275 #[some q] w λe w'=>e=.returned (.bool v)/\w'=w:=by
 have c:=(h.cell 8).trans b;clear h b;go_in;go_wp2_with fail;go_returns;exact⟨rfl,rfl⟩
def bG (f:Bool) (a b:Int):Value:=.tuple #[.int .i64 (if f=true then a else 0),.int .i64 (if f=true then b else 0),f]
theorem zu4(q:Nat)(s:Sh)(t:Tk)(w:World)(i:aA w q (GD s t) 270):
  Calls Tryz.prog 176 #[some q] w λe w'=>e=.returned (bG t.found t.ep t.es)/\Below w.heap.size w w':=by
 obtain⟨B,tk,C,o,p,n,l,b,j⟩:=t;obtain⟨sp,y,z⟩:=s;have r:=i.lt;have m:=i.cell;clear i;unfold bG;dsimp only;cases b
 .go_in;go_wp2_with fail;go_returns;exact⟨rfl,Below.refl _ _⟩
 go_in;go_wp2_with fail;go_quiet (fail);have hb:=below_drewN (Below.refl w.heap.size w) nq;go_wp2_with fail;go_returns;exact⟨rfl,hb⟩
theorem zum(q:Nat)(s:Sh)(t:Sc)(w:World)(n:aA w q (SB s t) 287)(z:1<=s.p/\s.p<=64)(h:t.found=true->(0<=t.first/\t.first<64)/\(0<=t.many/\t.many<=64)):
  Calls Tryz.prog 179 #[some q] w λe w'=>e=.returned (bG t.found (t.page s) t.i)/\Below w.heap.size w w':=by
 have b:=λY (l:aA Y q (SB s t) 287) (r:t.found=true)=>yV q s t Y l z (h r).1 (h r).2;generalize t.page s=pg at*;obtain⟨E,tk,tf,G,F,H,j,o⟩:=t;obtain⟨sp,C,D⟩:=s;have B:=n.lt;have y:=n.cell;unfold bG;dsimp only at b h|-;clear h;cases j
 .clear b;go_in;go_wp2_with fail;go_returns;exact⟨rfl,Below.refl _ _⟩
 replace b:=hd' (λY l=>b Y l rfl);go_in;go_upto_region 3 with fail;refine wre ?_;repeat (go_big_quiet_step (((go_at_call 186;exact AA (b _ (n.below (Ext.below _)))))))
 refine wqn λX m=>?_;have hb:=m;go_wp2_with fail;go_returns;exact⟨rfl,hb⟩
theorem zu1(q:Nat)(s:Sh)(t:Pc)(w:World)(l:aA w q (fF s t) 289)(z:1<=s.p/\s.p<=64)(h:t.found=true->(0<=t.first/\t.first<64)/\(0<=t.many/\t.many<=64)):
  Calls Tryz.prog 181 #[some q] w λe w'=>e=.returned (.tuple #[.int .i64 (if t.found=true then t.page s else 0),t.found])/\Below w.heap.size w w':=by
 have b:=λY (y:aA Y q (fF s t) 289) (n:t.found=true)=>EV q s t Y y z (h n).1 (h n).2;generalize t.page s=pg at*;obtain⟨E,tf,F,j,i,m⟩:=t;obtain⟨sp,C,D⟩:=s;have B:=l.lt;have o:=l.cell;dsimp only at b h|-;clear h;cases i
 .clear b;go_in;go_wp2_with fail;go_returns;exact⟨rfl,Below.refl _ _⟩
 replace b:=hd' (b w l rfl);go_in;go_wp2_with (go_at_call 187;(with_reducible refine b.out.mono ?_);rintro r G ⟨rfl,hb⟩);go_returns;exact⟨rfl,hb⟩
theorem zrb(v:Value)(W:World):(Instr.typeAssert (.iface 260 v) 257 260 true).run Tryz.prog W=.ok (.tuple #[v,.bool true]) W:=by kernel_rfl
theorem zrt(v:Value)(W:World):(Instr.typeAssert (.iface 280 v) 257 260 true).run Tryz.prog W=.ok (.tuple #[.pointer none,.bool false]) W:=by kernel_rfl
theorem zsu(v:Value)(W:World):(Instr.typeAssert (.iface 280 v) 257 280 true).run Tryz.prog W=.ok (.tuple #[v,.bool true]) W:=by kernel_rfl
theorem zr1(v:Value)(W:World):(Instr.typeAssert (.iface 282 v) 257 260 true).run Tryz.prog W=.ok (.tuple #[.pointer none,.bool false]) W:=by kernel_rfl
theorem zr6(v:Value)(W:World):(Instr.typeAssert (.iface 282 v) 257 280 true).run Tryz.prog W=.ok (.tuple #[.pointer none,.bool false]) W:=by kernel_rfl
theorem zsy(v:Value)(W:World):(Instr.typeAssert (.iface 282 v) 257 282 true).run Tryz.prog W=.ok (.tuple #[v,.bool true]) W:=by kernel_rfl
theorem zta(v:Value)(W:World):(Instr.typeAssert (.iface 262 v) 257 260 true).run Tryz.prog W=.ok (.tuple #[.pointer none,.bool false]) W:=by kernel_rfl
theorem zte(v:Value)(W:World):(Instr.typeAssert (.iface 262 v) 257 280 true).run Tryz.prog W=.ok (.tuple #[.pointer none,.bool false]) W:=by kernel_rfl
theorem zr7(v:Value)(W:World):(Instr.typeAssert (.iface 262 v) 257 282 true).run Tryz.prog W=.ok (.tuple #[.pointer none,.bool false]) W:=by kernel_rfl
theorem zsl(v:Value)(W:World):(Instr.typeAssert (.iface 262 v) 257 262 true).run Tryz.prog W=.ok (.tuple #[v,.bool true]) W:=by kernel_rfl
theorem zsd(v:Value)(W:World):(Instr.typeAssert (.iface 285 v) 257 260 true).run Tryz.prog W=.ok (.tuple #[.pointer none,.bool false]) W:=by kernel_rfl
theorem zss(v:Value)(W:World):(Instr.typeAssert (.iface 285 v) 257 280 true).run Tryz.prog W=.ok (.tuple #[.pointer none,.bool false]) W:=by kernel_rfl
theorem zrc(v:Value)(W:World):(Instr.typeAssert (.iface 285 v) 257 282 true).run Tryz.prog W=.ok (.tuple #[.pointer none,.bool false]) W:=by kernel_rfl
theorem zr9(v:Value)(W:World):(Instr.typeAssert (.iface 285 v) 257 262 true).run Tryz.prog W=.ok (.tuple #[.pointer none,.bool false]) W:=by kernel_rfl
theorem zq3(v:Value)(W:World):(Instr.typeAssert (.iface 285 v) 257 285 true).run Tryz.prog W=.ok (.tuple #[v,.bool true]) W:=by kernel_rfl
attribute [local go_sem ↓] zrb zrt zsu zr1 zr6 zsy zta zte zr7 zsl zsd zss zrc zr9 zq3

def UI (s:Sh):Mc->Array Value
 |.tk t=>GD s t
 |.sc t=>SB s t
 |.pc t=>fF s t
 |.sp t=>IC s t
 |.bn t=>yE s t
def mcT:Mc->TypeId
 |.tk _=>270
 |.sc _=>287
 |.pc _=>289
 |.sp _=>292
 |.bn _=>294
def mcV:Mc->Nat->Value
 |.tk _,q=>.iface 260 (.pointer (some ⟨q,0,.none⟩))
 |.sc _,q=>.iface 280 (.pointer (some ⟨q,0,.none⟩))
 |.pc _,q=>.iface 282 (.pointer (some ⟨q,0,.none⟩))
 |.sp _,q=>.iface 262 (.pointer (some ⟨q,0,.none⟩))
 |.bn _,q=>.iface 285 (.pointer (some ⟨q,0,.none⟩))
attribute [local go_sem] mcV

def nowV (o:Option Mc) (q:Nat):Value:=match o with
 |none=>.nilIface
 |some x=>mcV x q
def SA (s:Sh) (t:Sk) (nv:Value):Array Value:=#[s.p,s.c,s.m,t.c,t.k,t.first,nv,t.many,t.page,t.slot,t.found,t.done]
attribute [local go_sem] SA

structure SkAt (w:World) (q q2:Nat) (s:Sh) (t:Sk):Prop where
 row:aA w q (SA s t (nowV t.now q2)) 259
 inn:∀x,t.now=some x->aA w q2 (UI s x) (mcT x)/\q≠q2
theorem SkAt.VH{w w':World}{q q2:Nat}{s:Sh}{t:Sk}(h:SkAt w q q2 s t)(h1:w'.heap[q]?=w.heap[q]?)(h2:t.now≠none->w'.heap[q2]?=w.heap[q2]?):SkAt w' q q2 s t:=
 ⟨h1.trans h.row,λx b=>⟨(h2 (by rw[b];exact λe=>by cases e)).trans (h.inn x b).1,(h.inn x b).2⟩⟩
theorem SkAt.below{w w':World}{q q2:Nat}{s:Sh}{t:Sk}(h:SkAt w q q2 s t)(hb:Below w.heap.size w w'):SkAt w' q q2 s t:=
 ⟨h.row.below hb,λx b=>⟨(h.inn x b).1.below hb,(h.inn x b).2⟩⟩
structure uC (q q2:Nat) (w w':World) (e:Ending) (s:Sh) (t:Sk):Prop where
 ret:e=.returned (.tuple #[])
 at':∃q3,SkAt w' q q3 s t/\(q3=q2\/w.heap.size<=q3)
 only:Only (λk=>k=q) w w'
theorem LP(q:Nat)(s:Sh)(t:Sk)(n:Value)(pg sl:Int)(w:World)(m:aA w q (SA s t n) 259):
  Calls Tryz.prog 177 #[some q,pg,sl] w λe w'=>Turned q w w' e (SA s (t.fin pg sl) n) 259:=by
 have h0:=At1.start m;clear m;obtain⟨sp,r,y⟩:=s;obtain⟨z,tk,tf,o,B,j,l,b,i⟩:=t;have p:=h0.cell;have C:=h0.free;go_in;go_wp2_with fail;go_returns;exact((((h0.set 8 _).set 9 _).set 10 _).set 11 _).fin rfl
theorem BV(q:Nat)(s:Sh)(t:Sk)(E:Value)(w:World)(y:aA w q (SA s t E) 259)(h2:0<=t.many/\t.many<64):
  Calls Tryz.prog 185 #[some q] w λe w'=>Turned q w w' e (SA s (t.turn s) .nilIface) 259:=by
 have h0:=At1.start y;clear y;unfold Sk.turn;obtain⟨sp,G,H⟩:=s;obtain⟨I,tk,tf,z,o,p,r,b,n⟩:=t;dsimp only at h2|-;obtain⟨m1,m2⟩:=h2;have i:=h0.cell;have B:=h0.free;have J:=wrp (o+1);go_in;go_upto_region 2 with fail;have j:=(h0.set 6 .nilIface).set 7 (.int .i64 (o+1));generalize World.setCell _ ⟨q,7,.none⟩ (.int .i64 (o+1))=U at*;clear i h0 B;have C:=j.cell;have F:=j.lt;refine wret 13 ?_;repeat (go_big_quiet_step (fail))
 refine wqn λT m=>?_;have l:=j.below m;have D:=l.cell;have B:=l.free;go_wp2_with fail;go_returns;exact(l.set 11 _).fin rfl
theorem qV(q:Nat)(s:Sh)(t:Sk)(z:Value)(w:World)(j:aA w q (SA s t z) 259)(o:1<=s.p/\s.p<=64)(h1:0<=t.first/\t.first<64)(h2:0<=t.many/\t.many<=64):
  Calls Tryz.prog 184 #[some q] w λe w'=>e=.returned (.int .i64 (t.here s))/\Below w.heap.size w w':=by
 unfold Sk.here;obtain⟨sp,G,H⟩:=s;obtain⟨I,tk,tf,r,b,m,n,i,l⟩:=t;dsimp only at o h1 h2|-;have D:=j.lt;have y:=j.cell;obtain⟨E,F⟩:=o;obtain⟨f1,f2⟩:=h1;obtain⟨m1,m2⟩:=h2;have J:=wrp (tf+b);have L:(tf+b).tmod sp=(tf+b)%sp:=Int.tmod_eq_emod_of_nonneg (by omega);have N:(sp==0)=false:=by simp;omega
 have M:IntKind.i64.wrap ((tf+b)%sp)=(tf+b)%sp:=by have B:=Int.emod_nonneg (tf+b) (by omega:sp≠0);have C:=Int.emod_lt_of_pos (tf+b) (by omega:0<sp);exact IntWalk.i64_in _ ⟨by omega,by omega⟩
 clear j;go_in;go_wp2_with fail;go_quiet (fail);have hb:=below_drewN (Below.refl w.heap.size w) nq;go_wp2_with fail;go_returns;exact⟨rfl,hb⟩
theorem KV(q:Nat)(s:Sh)(t:Sk)(R:Value)(pg:Int)(w:World)(O:aA w q (SA s t R) 259):
  Calls Tryz.prog 182 #[some q,pg] w λe w'=>∃q3,w.heap.size<=q3/\aA w' q3 (yE s (mC s t.c pg t.k)) 294/\Turned q w w' e (SA s (t.bind s pg) (mcV (.bn (mC s t.c pg t.k)) q3)) 259:=by
 have h0:=At1.start O;clear O;have i:=λY=>z1j s t.c pg t.k Y;generalize B:mC s t.c pg t.k=N at*;obtain⟨L,C,n⟩:∃L:Sk,Hid (L={t with page:=pg,now:=some (.bn N)})/\L=t.bind s pg:=⟨_,hd' (by rw[Sk.bind,B]),rfl⟩;rw[<-n];clear n B;obtain⟨cs,I,m⟩:=hidv (yE s N);rw[<-m]at i|-;clear m I;obtain⟨sp,D,E⟩:=s;obtain⟨F,tk,tf,o,S,M,l,b,j⟩:=t;dsimp only at i C|-;replace i:=hd' i;have G:=h0.cell;have T:=h0.free;go_in;go_upto_region 1 with fail;have p:=h0.set 8 (.int .i64 pg);generalize World.setCell _ ⟨q,8,.none⟩ (.int .i64 pg)=U at*;clear G h0 T;replace p:At1 q w U (SA ⟨sp,D,E⟩ ⟨F,tk,tf,o,S,pg,l,b,j⟩ R) 259:=p;have hS:=hd' (λ(Y:World) (v:Value) (h:aA Y q (SA ⟨sp,D,E⟩ ⟨F,tk,tf,o,S,pg,l,b,j⟩ v) 259)=>(⟨h.cell 0,h.cell 1,h.cell 2,h.cell 3,h.cell 4,h.cell 8⟩:Y.cell? ⟨q,0,.none⟩=some (.int .i64 sp)/\Y.cell? ⟨q,1,.none⟩=some (.int .i64 D)/\Y.cell? ⟨q,2,.none⟩=some (.int .i64 E)/\Y.cell? ⟨q,3,.none⟩=some (.int .i64 F)/\Y.cell? ⟨q,4,.none⟩=some (.int .i64 tk)/\Y.cell? ⟨q,8,.none⟩=some (.int .i64 pg)))
 go_region_held3 (λY=>Y.cell? ⟨q,0,.none⟩=some (.int .i64 sp)/\Y.cell? ⟨q,1,.none⟩=some (.int .i64 D)/\Y.cell? ⟨q,2,.none⟩=some (.int .i64 E)/\Y.cell? ⟨q,3,.none⟩=some (.int .i64 F)/\Y.cell? ⟨q,4,.none⟩=some (.int .i64 tk)/\Y.cell? ⟨q,8,.none⟩=some (.int .i64 pg))
  (first|exact hS _ _ p.row.drew|exact hS _ _ z.row|exact hS _ _ ((z.set 6 _).row.cast rfl))
  ((go_at_call 188;(with_reducible refine(i _).mono ?_);rintro r X ⟨q3,rfl,J,y,H⟩;have z:=(At1.drewN p 1).below H;have V:=z.cell;have T:=z.free))
 go_wp2_with fail;go_returns;exact⟨q3,Nat.le_trans p.only.size J,y.other (by have:=p.ls;have:=p.only.size;have hd:U.drew.heap.size=U.heap.size:=rfl;omega) _ _,(z.set 6 _).fin (by rw[C];rfl)⟩
theorem uC.PP{q q2:Nat}{w w':World}{e:Ending}{s:Sh}{t t':Sk}(h:SkAt w q q2 s t)(b:t'.now=t.now\/t'.now=none)(f:Turned q w w' e (SA s t' (nowV t'.now q2)) 259):uC q q2 w w' e s t':=by
 refine⟨f.ret,⟨q2,⟨f.row,λx i=>?_⟩,.inl rfl⟩,f.only⟩;rcases b with b|b
 .obtain⟨h1,h2⟩:=h.inn x (b▸i);exact⟨h1.only f.only (λe=>h2 e.symm),h2⟩
 rw[b]at i;cases i
theorem zyv(q q2:Nat)(s:Sh)(t:Sk)(x:Tk)(w:World)(h:SkAt w q q2 s t)(S:t.now=some (.tk x)):
  Calls Tryz.prog 168 #[some q] w λe w'=>uC q q2 w w' e s (t.after s (.tk x)):=by
 obtain⟨B,b0⟩:=h.inn _ S;have h0:=At1.start h.row;rw[S]at h0;have i:=λY (T:aA Y q2 (GD s x) 270)=>zu4 q2 s x Y T;have M:aA w q2 (GD s x) 270:=B;clear B;have R:=λY (T:aA Y q (SA s t (mcV (.tk x) q2)) 259)=>LP q s t (mcV (.tk x) q2) x.ep x.es Y T;have l:=λY=>z1s s t.c t.k t.first Y;have hr:t.after s (.tk x)=if x.found=true then t.fin x.ep x.es else {t with now:=some (.sc (eD s t.c t.k t.first))}:=rfl;have j:Hid (∀Y e,Turned q w Y e (SA s (t.fin x.ep x.es) (mcV (.tk x) q2)) 259->uC q q2 w Y e s (t.fin x.ep x.es)):=hd' λY e p=>uC.PP h (.inl rfl) (by show Turned q w Y e (SA s (t.fin x.ep x.es) (nowV t.now q2)) _;rw[S];exact p);rw[hr];clear hr h S;rcases jB x.found with E|E
 .rw[jP E];unfold bG at i;rw[E]at i;clear l E;simp only[if_true]at i;generalize x.ep=a at*;generalize x.es=b at*;generalize X:t.fin a b=t2 at*;clear X;generalize GD s x=Z at*;have c6:=ce (.iface 260 (.pointer (some ⟨q2,0,.none⟩))) (h0.cell 6);replace i:=hd' i;replace R:=hd' R;go_in;go_wp2_with (first|(go_at_call 176;(with_reducible refine(i _ M).mono ?_);rintro r w1 ⟨rfl,D⟩;have o:=h0.below D)|(go_at_call 177;(with_reducible refine(R _ o.row).mono ?_);rintro r w2 p;obtain rfl:=p.ret));go_returns;exact j _ _ ((o.turned p).fin rfl)
 rw[jN (by rw[E];decide)];unfold bG at i;rw[E]at i;clear j R E;simp only[Bool.false_eq_true,if_false]at i;obtain⟨y,hy,N⟩:=hidv (eD s t.c t.k t.first);rw[<-N]at l|-;clear hy N;obtain⟨J,m⟩:∃J,J=SB s y:=⟨_,rfl⟩;rw[<-m]at l
 have j:Hid (∀Y e q3,w.heap.size<=q3->aA Y q3 J 287->Turned q w Y e (SA s {t with now:=some (.sc y)} (mcV (.sc y) q3)) 259->uC q q2 w Y e s {t with now:=some (.sc y)}):=hd' λY e q3 h3 C p=>⟨p.ret,⟨q3,⟨p.row,λz hz=>by
  simp only[Option.some.injEq]at hz
  subst hz
  rw[m]at C
  exact⟨C,by have:=h0.ls;omega⟩⟩,.inr h3⟩,p.only⟩
 clear m;generalize GD s x=Z at*;obtain⟨sp,sc,sm⟩:=s;obtain⟨tc,tk,tf,O,tm,H,I,n,G⟩:=t;dsimp only at l j|-;have c6:=ce (.iface 260 (.pointer (some ⟨q2,0,.none⟩))) (h0.cell 6);replace i:=hd' i;replace l:=hd' l;go_in;go_upto_region 6 with(first|(go_at_call 176;(with_reducible refine(i _ M).mono ?_);rintro r w1 ⟨rfl,D⟩;have o:=h0.below D));clear c6;have hS:=hd' (λ(Y:World) (v:Value) (h:aA Y q (SA ⟨sp,sc,sm⟩ ⟨tc,tk,tf,O,tm,H,I,n,G⟩ v) 259)=>(⟨h.cell 0,h.cell 1,h.cell 2,h.cell 3,h.cell 4,h.cell 5⟩:Y.cell? ⟨q,0,.none⟩=some (.int .i64 sp)/\Y.cell? ⟨q,1,.none⟩=some (.int .i64 sc)/\Y.cell? ⟨q,2,.none⟩=some (.int .i64 sm)/\Y.cell? ⟨q,3,.none⟩=some (.int .i64 tc)/\Y.cell? ⟨q,4,.none⟩=some (.int .i64 tk)/\Y.cell? ⟨q,5,.none⟩=some (.int .i64 tf)))
 go_region_held3 (λY=>Y.cell? ⟨q,0,.none⟩=some (.int .i64 sp)/\Y.cell? ⟨q,1,.none⟩=some (.int .i64 sc)/\Y.cell? ⟨q,2,.none⟩=some (.int .i64 sm)/\Y.cell? ⟨q,3,.none⟩=some (.int .i64 tc)/\Y.cell? ⟨q,4,.none⟩=some (.int .i64 tk)/\Y.cell? ⟨q,5,.none⟩=some (.int .i64 tf))
  (first|exact hS _ _ o.row.drew|exact hS _ _ L.row|exact hS _ _ ((L.set 6 _).row.cast rfl))
  ((go_at_call 178;(with_reducible refine(l _).mono ?_);rintro r w2 ⟨q3,rfl,V,F,U⟩;have L:=(At1.drewN o 1).below U;have z6:=L.cell 6;have zf:=L.free))
 go_wp2_with fail;go_returns;exact j _ _ q3 (Nat.le_trans o.only.size V) (F.other (by have:=o.ls;have:=o.only.size;have hd:w1.drew.heap.size=w1.heap.size:=rfl;omega) _ _) ((L.set 6 _).fin rfl)
theorem zx0(q q2:Nat)(s:Sh)(t:Sk)(x:Sc)(w:World)(h:SkAt w q q2 s t)(V:t.now=some (.sc x))(hp:1<=s.p/\s.p<=64)(R:x.found=true->(0<=x.first/\x.first<64)/\(0<=x.many/\x.many<=64)):
  Calls Tryz.prog 168 #[some q] w λe w'=>uC q q2 w w' e s (t.after s (.sc x)):=by
 obtain⟨D,b3⟩:=h.inn _ V;have h0:=At1.start h.row;rw[V]at h0;have j:=λY (X:aA Y q2 (SB s x) 287)=>zum q2 s x Y X hp R;have O:aA w q2 (SB s x) 287:=D;clear D;have U:=λY (X:aA Y q (SA s t (mcV (.sc x) q2)) 259)=>LP q s t (mcV (.sc x) q2) (x.page s) x.i Y X;have m:=λY=>z3d s t.c t.first Y;have hr:t.after s (.sc x)=if x.found=true then t.fin (x.page s) x.i else {t with now:=some (.pc (mE s t.c t.first))}:=rfl;have l:Hid (∀Y e,Turned q w Y e (SA s (t.fin (x.page s) x.i) (mcV (.sc x) q2)) 259->uC q q2 w Y e s (t.fin (x.page s) x.i)):=hd' λY e C=>uC.PP h (.inl rfl) (by show Turned q w Y e (SA s (t.fin (x.page s) x.i) (nowV t.now q2)) _;rw[V];exact C);rw[hr];clear hr h V R;unfold bG at j;rcases jB x.found with G|G
 .rw[jP G];rw[G]at j;clear m G;simp only[if_true]at j;generalize x.page s=a at*;generalize x.i=b at*;generalize b1:t.fin a b=t2 at*;clear b1;generalize SB s x=b2 at*;have c6:=ce (.iface 280 (.pointer (some ⟨q2,0,.none⟩))) (h0.cell 6);replace j:=hd' j;replace U:=hd' U;go_in;go_wp2_with (first|(go_at_call 179;(with_reducible refine(j _ O).mono ?_);rintro r w1 ⟨rfl,F⟩;have B:=h0.below F)|(go_at_call 177;(with_reducible refine(U _ B.row).mono ?_);rintro r w2 C;obtain rfl:=C.ret));go_returns;exact l _ _ ((B.turned C).fin rfl)
 rw[jN (by rw[G];decide)];rw[G]at j;clear l U G;simp only[Bool.false_eq_true,if_false]at j;obtain⟨y,hy,S⟩:=hidv (mE s t.c t.first);rw[<-S]at m|-;clear hy S;obtain⟨M,n⟩:∃M,M=fF s y:=⟨_,rfl⟩;rw[<-n]at m
 have l:Hid (∀Y e q3,w.heap.size<=q3->aA Y q3 M 289->Turned q w Y e (SA s {t with now:=some (.pc y)} (mcV (.pc y) q3)) 259->uC q q2 w Y e s {t with now:=some (.pc y)}):=hd' λY e q3 h3 E C=>⟨C.ret,⟨q3,⟨C.row,λz hz=>by
  simp only[Option.some.injEq]at hz
  subst hz
  rw[n]at E
  exact⟨E,by have:=h0.ls;omega⟩⟩,.inr h3⟩,C.only⟩
 clear n;generalize SB s x=b2 at*;obtain⟨sp,sc,sm⟩:=s;obtain⟨tc,tk,tf,T,tm,J,L,o,I⟩:=t;dsimp only at m l|-;have c6:=ce (.iface 280 (.pointer (some ⟨q2,0,.none⟩))) (h0.cell 6);replace j:=hd' j;replace m:=hd' m;go_in;go_upto_region 12 with(first|(go_at_call 179;(with_reducible refine(j _ O).mono ?_);rintro r w1 ⟨rfl,F⟩;have B:=h0.below F));clear c6;have hS:=hd' (λ(Y:World) (v:Value) (h:aA Y q (SA ⟨sp,sc,sm⟩ ⟨tc,tk,tf,T,tm,J,L,o,I⟩ v) 259)=>(⟨h.cell 0,h.cell 1,h.cell 2,h.cell 3,h.cell 4,h.cell 5⟩:Y.cell? ⟨q,0,.none⟩=some (.int .i64 sp)/\Y.cell? ⟨q,1,.none⟩=some (.int .i64 sc)/\Y.cell? ⟨q,2,.none⟩=some (.int .i64 sm)/\Y.cell? ⟨q,3,.none⟩=some (.int .i64 tc)/\Y.cell? ⟨q,4,.none⟩=some (.int .i64 tk)/\Y.cell? ⟨q,5,.none⟩=some (.int .i64 tf)))
 go_region_held3 (λY=>Y.cell? ⟨q,0,.none⟩=some (.int .i64 sp)/\Y.cell? ⟨q,1,.none⟩=some (.int .i64 sc)/\Y.cell? ⟨q,2,.none⟩=some (.int .i64 sm)/\Y.cell? ⟨q,3,.none⟩=some (.int .i64 tc)/\Y.cell? ⟨q,4,.none⟩=some (.int .i64 tk)/\Y.cell? ⟨q,5,.none⟩=some (.int .i64 tf))
  (first|exact hS _ _ B.row.drew|exact hS _ _ N.row|exact hS _ _ ((N.set 6 _).row.cast rfl))
  ((go_at_call 180;(with_reducible refine(m _).mono ?_);rintro r w2 ⟨q3,rfl,b0,H,Z⟩;have N:=(At1.drewN B 1).below Z;have z6:=N.cell 6;have zf:=N.free))
 go_wp2_with fail;go_returns;exact l _ _ q3 (Nat.le_trans B.only.size b0) (H.other (by have:=B.ls;have:=B.only.size;have hd:w1.drew.heap.size=w1.heap.size:=rfl;omega) _ _) ((N.set 6 _).fin rfl)
theorem zyx(q q2:Nat)(s:Sh)(t:Sk)(x:Pc)(w:World)(h:SkAt w q q2 s t)(G:t.now=some (.pc x))(T:1<=s.p/\s.p<=64)(B:x.found=true->(0<=x.first/\x.first<64)/\(0<=x.many/\x.many<=64)):
  Calls Tryz.prog 168 #[some q] w λe w'=>uC q q2 w w' e s (t.after s (.pc x)):=by
 obtain⟨m,S⟩:=h.inn _ G;have h0:At1 q w w (SA s t (mcV (.pc x) q2)) 259:=by have h1:=At1.start h.row;rw[G]at h1;exact h1
 have J:aA w q2 (fF s x) 289:=m;clear m;have c6:=ce (.iface 282 (.pointer (some ⟨q2,0,.none⟩))) (h0.cell 6);have b:=zu1 q2 s x w J T B;have n:=λY (R:aA Y q (SA s t (mcV (.pc x) q2)) 259)=>KV q s t (mcV (.pc x) q2) (x.page s) Y R;have M:t.after s (.pc x)=if x.found=true then t.bind s (x.page s) else {t with now:=none}:=rfl;rw[M];rcases jB x.found with o|o
 .rw[jP o];rw[o]at b;simp only[if_true]at b
  have i:Hid (∀Y e F q3,jW w Y->Y.heap.size<=q3->aA F q3 (yE s (mC s t.c (x.page s) t.k)) 294->Turned q Y F e (SA s (t.bind s (x.page s)) (mcV (.bn (mC s t.c (x.page s) t.k)) q3)) 259->uC q q2 w F e s (t.bind s (x.page s))):=hd' λY e F q3 hb h3 E j=>⟨j.ret,⟨q3,⟨j.row,λz H=>by
   simp only[Sk.bind,Option.some.injEq]at H
   subst H
   exact⟨E,by have:=h0.ls;have:=hb.size;omega⟩⟩,.inr (by have:=hb.size;omega)⟩,(Only.of_below hb).trans j.only (λ_ _ e=>e)⟩
  have O:=h0;clear h G B M o;generalize SA s t (mcV (.pc x) q2)=I at*;generalize yE s (mC s t.c (x.page s) t.k)=N at*;have D:Hid (∀Y,aA Y q I 259->jK 182 #[some q,.int .i64 (x.page s)] Y λe w'=>∃q3,Y.heap.size<=q3/\aA w' q3 N 294/\Turned q Y w' e (SA s (t.bind s (x.page s)) (mcV (.bn (mC s t.c (x.page s) t.k)) q3)) 259):=hd' n;generalize x.page s=a at*;generalize t.bind s a=V at*;clear n;replace b:=hd' b;go_in;go_wp2_with (first|(go_at_call 181;(with_reducible refine b.out.mono ?_);rintro r U ⟨rfl,l⟩;have C:=h0.below l)|(go_at_call 182;(with_reducible refine(D _ C.row).mono ?_);rintro r X ⟨q3,L,y,j⟩;obtain rfl:=j.ret));go_returns;exact i _ _ _ q3 l L y j
 rw[jN (by rw[o];decide)];rw[o]at b;simp only[Bool.false_eq_true,if_false]at b;have i:Hid (∀Y e,Turned q w Y e (SA s {t with now:=none} .nilIface) 259->uC q q2 w Y e s {t with now:=none}):=hd' λY e j=>⟨j.ret,⟨q2,⟨j.row,λz H=>(by cases H)⟩,.inl rfl⟩,j.only⟩;clear h G B M o n;replace b:=hd' b;go_in;go_wp2_with (first|(go_at_call 181;(with_reducible refine b.out.mono ?_);rintro r U ⟨rfl,l⟩;have C:=h0.below l;have Z:=C.cell 6;have zf:=C.free));go_returns;exact i _ _ ((C.set 6 _).fin rfl)
theorem zxn(q q2:Nat)(s:Sh)(t:Sk)(x:Sp)(w:World)(h:SkAt w q q2 s t)(J:t.now=some (.sp x))(N:1<=s.p/\s.p<=64)(h1:0<=t.first/\t.first<64)(h2:0<=t.many/\t.many<64):
  Calls Tryz.prog 168 #[some q] w λe w'=>uC q q2 w w' e s (t.after s (.sp x)):=by
 obtain⟨n,U⟩:=h.inn _ J;have h0:At1 q w w (SA s t (mcV (.sp x) q2)) 259:=by have h1:=At1.start h.row;rw[J]at h1;exact h1
 have M:aA w q2 (IC s x) 292:=n;clear n;have c6:=ce (.iface 262 (.pointer (some ⟨q2,0,.none⟩))) (h0.cell 6);have b:=PV q2 (IC s x) x.held w M rfl;have y:=λY (E:aA Y q (SA s t (mcV (.sp x) q2)) 259)=>KV q s t (mcV (.sp x) q2) (t.here s) Y E;have l:=λY (E:aA Y q (SA s t (mcV (.sp x) q2)) 259)=>qV q s t (mcV (.sp x) q2) Y E N h1 (by omega);have m:=λY (E:aA Y q (SA s t (mcV (.sp x) q2)) 259)=>BV q s t (mcV (.sp x) q2) Y E h2;have R:t.after s (.sp x)=if x.held=true then t.bind s (t.here s) else t.turn s:=rfl;rw[R];rcases jB x.held with B|B
 .rw[jP B];rw[B]at b
  have j:Hid (∀Y e I q3,jW w Y->Y.heap.size<=q3->aA I q3 (yE s (mC s t.c (t.here s) t.k)) 294->Turned q Y I e (SA s (t.bind s (t.here s)) (mcV (.bn (mC s t.c (t.here s) t.k)) q3)) 259->uC q q2 w I e s (t.bind s (t.here s))):=hd' λY e I q3 hb h3 H i=>⟨i.ret,⟨q3,⟨i.row,λz L=>by
   simp only[Sk.bind,Option.some.injEq]at L
   subst L
   exact⟨H,by have:=h0.ls;have:=hb.size;omega⟩⟩,.inr (by have:=hb.size;omega)⟩,(Only.of_below hb).trans i.only (λ_ _ e=>e)⟩
  clear h J R B m h1 h2 N;generalize SA s t (mcV (.sp x) q2)=D at*;generalize yE s (mC s t.c (t.here s) t.k)=S at*;have G:Hid (∀Y,aA Y q D 259->jK 182 #[some q,.int .i64 (t.here s)] Y λe w'=>∃q3,Y.heap.size<=q3/\aA w' q3 S 294/\Turned q Y w' e (SA s (t.bind s (t.here s)) (mcV (.bn (mC s t.c (t.here s) t.k)) q3)) 259):=hd' y;generalize t.here s=a at*;generalize t.bind s a=V at*;clear y;replace b:=hd' b;replace l:=hd' l;go_in;go_wp2_with (first|(go_at_call 183;(with_reducible refine b.out.mono ?_);rintro r X ⟨rfl,o⟩;obtain rfl:=o.symm)|(go_at_call 184;(with_reducible refine(l _ h0.row).mono ?_);rintro r Z ⟨rfl,F⟩;have T:=h0.below F)|(go_at_call 182;(with_reducible refine(G _ T.row).mono ?_);rintro r w3 ⟨q3,O,C,i⟩;obtain rfl:=i.ret));go_returns;exact j _ _ _ q3 F O C i
 rw[jN (by rw[B];decide)];rw[B]at b;have j:Hid (∀Y e,Turned q w Y e (SA s (t.turn s) .nilIface) 259->uC q q2 w Y e s (t.turn s)):=hd' λY e i=>⟨i.ret,⟨q2,⟨i.row,λz L=>(by cases L)⟩,.inl rfl⟩,i.only⟩;clear h J R B y l h1 h2 N;generalize SA s t (mcV (.sp x) q2)=D at*;generalize t.turn s=V at*;replace b:=hd' b;replace m:=hd' m;go_in;go_wp2_with (first|(go_at_call 183;(with_reducible refine b.out.mono ?_);rintro r X ⟨rfl,o⟩;obtain rfl:=o.symm)|(go_at_call 185;(with_reducible refine(m _ h0.row).mono ?_);rintro r Z i;obtain rfl:=i.ret));go_returns;exact j _ _ i
theorem zy4(q q2:Nat)(s:Sh)(t:Sk)(x:Bn)(w:World)(h:SkAt w q q2 s t)(l:t.now=some (.bn x)):
  Calls Tryz.prog 168 #[some q] w λe w'=>uC q q2 w w' e s (t.after s (.bn x)):=by
 obtain⟨b,p⟩:=h.inn _ l;have h0:At1 q w w (SA s t (mcV (.bn x) q2)) 259:=by have h1:=At1.start h.row;rw[l]at h1;exact h1
 have o:aA w q2 (yE s x) 294:=b;clear b;have c6:=ce (.iface 285 (.pointer (some ⟨q2,0,.none⟩))) (h0.cell 6);have m:=LP q s t (mcV (.bn x) q2) t.page 0 w h0.row;have n:t.after s (.bn x)=t.fin t.page 0:=rfl;rw[n];have i:Hid (∀Y e,Turned q w Y e (SA s (t.fin t.page 0) (mcV (.bn x) q2)) 259->uC q q2 w Y e s (t.fin t.page 0)):=hd' λY e j=>uC.PP h (.inl rfl) (by show Turned q w Y e (SA s (t.fin t.page 0) (nowV t.now q2)) _;rw[l];exact j);have c8:=ci t.page (h0.cell 8);clear h l n;generalize t.fin t.page 0=y at*;generalize t.page=pg at*;replace m:=hd' m;go_in;go_wp2_with (first|(go_at_call 177;(with_reducible refine m.out.mono ?_);rintro r z j;obtain rfl:=j.ret));go_returns;exact i _ _ j
theorem zvb(q q2:Nat)(s:Sh)(t:Sk)(x:Mc)(w:World)(h:SkAt w q q2 s t)(b:t.now=some x)(l:1<=s.p/\s.p<=64)(m:skOk s t)(hd:t.done=false):
  Calls Tryz.prog 168 #[some q] w λe w'=>uC q q2 w w' e s (t.after s x):=by
 obtain⟨c1,c2,c3,c4,c5⟩:=m.cl hd;obtain⟨i,_⟩:=c5 x b;cases x with
 |tk x=>exact zyv q q2 s t x w h b
 |sc x=>exact zx0 q q2 s t x w h b l (λj=>by have:=i.fd j;omega)
 |pc x=>exact zyx q q2 s t x w h b l (λj=>by have:=i.fd j;omega)
 |sp x=>exact zxn q q2 s t x w h b l (by omega) (by omega)
 |bn x=>exact zy4 q q2 s t x w h b
end

end Go.Proofs.YtkilokkopbajkaaGreat
