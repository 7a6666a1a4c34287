/- Texts bound together: DoneW SeekW. -/
import Derived.Test.YtkbddndcegpllaaGreatBt11

set_option linter.all false
set_option maxHeartbeats 1000000
set_option maxRecDepth 100000
namespace Go.Proofs.YtkbddndcegpllaaGreat

attribute [local go_sem] zbt zc9 zd1 ze5 zfn

section

open Go.RowKit

attribute [local go_sem ↓] Go.wp_at_zero Go.wp_at_succ

theorem zxx(q:Nat)(cs:Array Value)(v:Bool)(w:World)(h:zaa w q cs 305)(b:cs[11]?=some (.bool v)):Calls Tryz.prog 306 #[some q] w fun e w'=>e= .returned (.bool v)/\w'=w:=by
 have c:=(h.cell 11).trans b;clear h b;go_in;go_wp2_with fail;go_returns;exact⟨rfl,rfl⟩
theorem zxw(q:Nat)(cs:Array Value)(v:Bool)(w:World)(h:zaa w q cs 356)(b:cs[10]?=some (.bool v)):Calls Tryz.prog 278 #[some q] w fun e w'=>e= .returned (.bool v)/\w'=w:=by
 have c:=(h.cell 10).trans b;clear h b;go_in;go_wp2_with fail;go_returns;exact⟨rfl,rfl⟩
theorem z4h(q:Nat)(cs:Array Value)(v:Bool)(w:World)(h:zaa w q cs 356)(b:cs[9]?=some (.bool v)):Calls Tryz.prog 277 #[some q] w fun e w'=>e= .returned (.bool v)/\w'=w:=by
 have c:=(h.cell 9).trans b;clear h b;go_in;go_wp2_with fail;go_returns;exact⟨rfl,rfl⟩
theorem zyy(q:Nat)(cs:Array Value)(v:Bool)(w:World)(h:zaa w q cs 324)(b:cs[10]?=some (.bool v)):Calls Tryz.prog 308 #[some q] w fun e w'=>e= .returned (.bool v)/\w'=w:=by
 have c:=(h.cell 10).trans b;clear h b;go_in;go_wp2_with fail;go_returns;exact⟨rfl,rfl⟩
theorem zzg(q:Nat)(cs:Array Value)(v:Bool)(w:World)(h:zaa w q cs 326)(b:cs[8]?=some (.bool v)):Calls Tryz.prog 312 #[some q] w fun e w'=>e= .returned (.bool v)/\w'=w:=by
 have c:=(h.cell 8).trans b;clear h b;go_in;go_wp2_with fail;go_returns;exact⟨rfl,rfl⟩
theorem zog(q:Nat)(cs:Array Value)(v:Bool)(w:World)(h:zaa w q cs 329)(b:cs[9]?=some (.bool v)):Calls Tryz.prog 265 #[some q] w fun e w'=>e= .returned (.bool v)/\w'=w:=by
 have c:=(h.cell 9).trans b;clear h b;go_in;go_wp2_with fail;go_returns;exact⟨rfl,rfl⟩
theorem zpa(q:Nat)(cs:Array Value)(v:Bool)(w:World)(h:zaa w q cs 329)(b:cs[8]?=some (.bool v)):Calls Tryz.prog 219 #[some q] w fun e w'=>e= .returned (.bool v)/\w'=w:=by
 have c:=(h.cell 8).trans b;clear h b;go_in;go_wp2_with fail;go_returns;exact⟨rfl,rfl⟩
theorem zyi(q:Nat)(cs:Array Value)(v:Bool)(w:World)(h:zaa w q cs 332)(b:cs[8]?=some (.bool v)):Calls Tryz.prog 314 #[some q] w fun e w'=>e= .returned (.bool v)/\w'=w:=by
 have c:=(h.cell 8).trans b;clear h b;go_in;go_wp2_with fail;go_returns;exact⟨rfl,rfl⟩
def zgd (f:Bool) (a b:Int):Value:= .tuple #[.int .i64 (if f=true then a else 0),.int .i64 (if f=true then b else 0),f]
theorem zu4(q:Nat)(s:Sh)(t:Tk)(w:World)(i:zaa w q (zd1 s t) 305):
  Calls Tryz.prog 212 #[some q] w fun e w'=>e= .returned (zgd t.found t.ep t.es)/\Below w.heap.size w w':=by
 obtain⟨B,tk,C,o,p,n,l,b,j⟩:=t;obtain⟨sp,y,z⟩:=s;have r:=i.lt;have m:=i.cell;clear i;unfold zgd;dsimp only;cases b
 ·go_in;go_wp2_with fail;go_returns;exact⟨rfl,Below.refl _ _⟩
 go_in;go_wp2_with fail;go_quiet (fail);have hb:=below_drewN (Below.refl w.heap.size w) nq;go_wp2_with fail;go_returns;exact⟨rfl,hb⟩
theorem zum(q:Nat)(s:Sh)(t:Sc)(w:World)(m:zaa w q (zbt s t) 324)(z:1<=s.p/\s.p<=64)(h:t.found=true->(0<=t.first/\t.first<64)/\(0<=t.many/\t.many<=64)):
  Calls Tryz.prog 215 #[some q] w fun e w'=>e= .returned (zgd t.found (t.page s) t.i)/\Below w.heap.size w w':=by
 have b:=fun Y (l:zaa Y q (zbt s t) 324) (r:t.found=true)=>zoi q s t Y l z (h r).1 (h r).2;generalize t.page s=pg at *;obtain⟨E,tk,tf,G,F,H,j,n⟩:=t;obtain⟨sp,C,D⟩:=s;have B:=m.lt;have y:=m.cell;unfold zgd;dsimp only at b h ⊢;clear h;cases j
 ·clear b;go_in;go_wp2_with fail;go_returns;exact⟨rfl,Below.refl _ _⟩
 replace b:=hd' (fun Y l=>b Y l rfl);go_in;go_upto_region 3 with fail;refine zaj (by kernel_rfl) (by kernel_rfl) ?_;repeat (go_big_quiet_step (((go_at_call 223;exact zam (b.out _ (m.below (Ext.below _)))))))
 refine wpQuiet_nil ?_;rintro _ ⟨o,rfl⟩;have hb:=o.below;generalize o.w=X at *;go_wp2_with fail;go_returns;exact⟨rfl,hb⟩
theorem zu1(q:Nat)(s:Sh)(t:Pc)(w:World)(l:zaa w q (zfn s t) 326)(z:1<=s.p/\s.p<=64)(h:t.found=true->(0<=t.first/\t.first<64)/\(0<=t.many/\t.many<=64)):
  Calls Tryz.prog 217 #[some q] w fun e w'=>e= .returned (.tuple #[.int .i64 (if t.found=true then t.page s else 0),t.found])/\Below w.heap.size w w':=by
 have b:=fun Y (y:zaa Y q (zfn s t) 326) (n:t.found=true)=>zoo q s t Y y z (h n).1 (h n).2;generalize t.page s=pg at *;obtain⟨E,tf,F,j,i,m⟩:=t;obtain⟨sp,C,D⟩:=s;have B:=l.lt;have o:=l.cell;dsimp only at b h ⊢;clear h;cases i
 ·clear b;go_in;go_wp2_with fail;go_returns;exact⟨rfl,Below.refl _ _⟩
 replace b:=hd' (b w l rfl);go_in;go_wp2_with (go_at_call 224;(with_reducible refine b.out.mono ?_);rintro r G ⟨rfl,hb⟩);go_returns;exact⟨rfl,hb⟩
theorem zrb(v:Value)(W:World):(Instr.typeAssert (.iface 293 v) 290 293 true).run Tryz.prog W= .ok (.tuple #[v,.bool true]) W:=by kernel_rfl
theorem zrt(v:Value)(W:World):(Instr.typeAssert (.iface 317 v) 290 293 true).run Tryz.prog W= .ok (.tuple #[.pointer none,.bool false]) W:=by kernel_rfl
theorem zsu(v:Value)(W:World):(Instr.typeAssert (.iface 317 v) 290 317 true).run Tryz.prog W= .ok (.tuple #[v,.bool true]) W:=by kernel_rfl
theorem zr1(v:Value)(W:World):(Instr.typeAssert (.iface 319 v) 290 293 true).run Tryz.prog W= .ok (.tuple #[.pointer none,.bool false]) W:=by kernel_rfl
theorem zr6(v:Value)(W:World):(Instr.typeAssert (.iface 319 v) 290 317 true).run Tryz.prog W= .ok (.tuple #[.pointer none,.bool false]) W:=by kernel_rfl
theorem zsy(v:Value)(W:World):(Instr.typeAssert (.iface 319 v) 290 319 true).run Tryz.prog W= .ok (.tuple #[v,.bool true]) W:=by kernel_rfl
theorem zta(v:Value)(W:World):(Instr.typeAssert (.iface 295 v) 290 293 true).run Tryz.prog W= .ok (.tuple #[.pointer none,.bool false]) W:=by kernel_rfl
theorem zte(v:Value)(W:World):(Instr.typeAssert (.iface 295 v) 290 317 true).run Tryz.prog W= .ok (.tuple #[.pointer none,.bool false]) W:=by kernel_rfl
theorem zr7(v:Value)(W:World):(Instr.typeAssert (.iface 295 v) 290 319 true).run Tryz.prog W= .ok (.tuple #[.pointer none,.bool false]) W:=by kernel_rfl
theorem zsl(v:Value)(W:World):(Instr.typeAssert (.iface 295 v) 290 295 true).run Tryz.prog W= .ok (.tuple #[v,.bool true]) W:=by kernel_rfl
theorem zsd(v:Value)(W:World):(Instr.typeAssert (.iface 322 v) 290 293 true).run Tryz.prog W= .ok (.tuple #[.pointer none,.bool false]) W:=by kernel_rfl
theorem zss(v:Value)(W:World):(Instr.typeAssert (.iface 322 v) 290 317 true).run Tryz.prog W= .ok (.tuple #[.pointer none,.bool false]) W:=by kernel_rfl
theorem zrc(v:Value)(W:World):(Instr.typeAssert (.iface 322 v) 290 319 true).run Tryz.prog W= .ok (.tuple #[.pointer none,.bool false]) W:=by kernel_rfl
theorem zr9(v:Value)(W:World):(Instr.typeAssert (.iface 322 v) 290 295 true).run Tryz.prog W= .ok (.tuple #[.pointer none,.bool false]) W:=by kernel_rfl
theorem zq3(v:Value)(W:World):(Instr.typeAssert (.iface 322 v) 290 322 true).run Tryz.prog W= .ok (.tuple #[v,.bool true]) W:=by kernel_rfl
attribute [local go_sem ↓] zrb zrt zsu zr1 zr6 zsy zta zte zr7 zsl zsd zss zrc zr9 zq3

def zku (s:Sh):Mc->Array Value
 | .tk t=> zd1 s t
 | .sc t=> zbt s t
 | .pc t=> zfn s t
 | .sp t=> zc9 s t
 | .bn t=> ze5 s t
def mcT:Mc->TypeId
 | .tk _=> 305
 | .sc _=> 324
 | .pc _=> 326
 | .sp _=> 329
 | .bn _=> 332
def mcV:Mc->Nat->Value
 | .tk _,q=> .iface 293 (.pointer (some ⟨q,0,.none⟩))
 | .sc _,q=> .iface 317 (.pointer (some ⟨q,0,.none⟩))
 | .pc _,q=> .iface 319 (.pointer (some ⟨q,0,.none⟩))
 | .sp _,q=> .iface 295 (.pointer (some ⟨q,0,.none⟩))
 | .bn _,q=> .iface 322 (.pointer (some ⟨q,0,.none⟩))
attribute [local go_sem] mcV

def nowV (o:Option Mc) (q:Nat):Value:=match o with
 | none=> .nilIface
 | some x=> mcV x q
def za1 (s:Sh) (t:Sk) (nv:Value):Array Value:= #[s.p,s.c,s.m,t.c,t.k,t.first,nv,t.many,t.page,t.slot,t.found,t.done]
attribute [local go_sem] za1

structure SkAt (w:World) (q q2:Nat) (s:Sh) (t:Sk):Prop where
 row:zaa w q (za1 s t (nowV t.now q2)) 292
 inn:∀ x,t.now=some x->zaa w q2 (zku s x) (mcT x)/\q≠q2
theorem SkAt.zfe{w w':World}{q q2:Nat}{s:Sh}{t:Sk}(h:SkAt w q q2 s t)(f:w'.heap[q]?=w.heap[q]?)(i:t.now≠none->w'.heap[q2]?=w.heap[q2]?):SkAt w' q q2 s t:=
 ⟨f.trans h.row,fun x b=>⟨(i (by rw[b];exact fun e=>by cases e)).trans (h.inn x b).1,(h.inn x b).2⟩⟩
theorem SkAt.below{w w':World}{q q2:Nat}{s:Sh}{t:Sk}(h:SkAt w q q2 s t)(hb:Below w.heap.size w w'):SkAt w' q q2 s t:=
 ⟨h.row.below hb,fun x b=>⟨(h.inn x b).1.below hb,(h.inn x b).2⟩⟩
structure zbo (q q2:Nat) (w w':World) (e:Ending) (s:Sh) (t:Sk):Prop where
 ret:e= .returned (.tuple #[])
 at':∃ q3,SkAt w' q q3 s t/\(q3=q2\/w.heap.size<=q3)
 only:Only (fun k=> k=q) w w'
theorem zmr(q:Nat)(s:Sh)(t:Sk)(o:Value)(pg sl:Int)(w:World)(n:zaa w q (za1 s t o) 292):
  Calls Tryz.prog 213 #[some q,pg,sl] w fun e w'=>Turned q w w' e (za1 s (t.fin pg sl) o) 292:=by
 have i:=At1.start n;clear n;obtain⟨sp,y,z⟩:=s;obtain⟨B,tk,tf,p,C,l,m,b,j⟩:=t;have r:=i.cell;have D:=i.free;go_in;go_wp2_with fail;go_returns;exact((((i.set 8 _).set 9 _).set 10 _).set 11 _).fin rfl
theorem zol(q:Nat)(s:Sh)(t:Sk)(G:Value)(w:World)(B:zaa w q (za1 s t G) 292)(z:0<=t.many/\t.many<64):
  Calls Tryz.prog 221 #[some q] w fun e w'=>Turned q w w' e (za1 s (t.turn s) .nilIface) 292:=by
 have b:=At1.start B;clear B;unfold Sk.turn;obtain⟨sp,I,J⟩:=s;obtain⟨L,tk,tf,C,o,p,r,i,n⟩:=t;dsimp only at z ⊢;obtain⟨m1,m2⟩:=z;have j:=b.cell;have D:=b.free;have M:=wrp (o+1);go_in;go_upto_region 2 with fail;have l:=(b.set 6 .nilIface).set 7 (.int .i64 (o+1));generalize World.setCell _ ⟨q,7,.none⟩ (.int .i64 (o+1))=U at *;clear j b D;have E:=l.cell;have H:=l.lt;refine zad 13 (by kernel_rfl) (by kernel_rfl) ?_;dsimp only[List.take,List.drop];repeat (go_big_quiet_step (fail))
 refine wpQuiet_nil ?_;rintro _ ⟨y,rfl⟩;have m:=l.below y.below;generalize y.w=T at *;change wpList _ _ _ _ _ T;have F:=m.cell;have D:=m.free;go_wp2_with fail;go_returns;exact(m.set 11 _).fin rfl
theorem zo6(q:Nat)(s:Sh)(t:Sk)(C:Value)(w:World)(j:zaa w q (za1 s t C) 292)(y:1<=s.p/\s.p<=64)(o:0<=t.first/\t.first<64)(r:0<=t.many/\t.many<=64):
  Calls Tryz.prog 220 #[some q] w fun e w'=>e= .returned (.int .i64 (t.here s))/\Below w.heap.size w w':=by
 unfold Sk.here;obtain⟨sp,I,J⟩:=s;obtain⟨L,tk,tf,z,b,m,n,i,l⟩:=t;dsimp only at y o r ⊢;have F:=j.lt;have B:=j.cell;obtain⟨G,H⟩:=y;obtain⟨f1,f2⟩:=o;obtain⟨m1,m2⟩:=r;have M:=wrp (tf+b);have N:(tf+b).tmod sp=(tf+b)%sp:=Int.tmod_eq_emod_of_nonneg (by omega);have R:(sp==0)=false:=by simp;omega
 have O:IntKind.i64.wrap ((tf+b)%sp)=(tf+b)%sp:=by have D:=Int.emod_nonneg (tf+b) (by omega:sp≠0);have E:=Int.emod_lt_of_pos (tf+b) (by omega:0<sp);exact IntWalk.i64_in _ ⟨by omega,by omega⟩
 clear j;go_in;go_wp2_with fail;go_quiet (fail);have hb:=below_drewN (Below.refl w.heap.size w) nq;go_wp2_with fail;go_returns;exact⟨rfl,hb⟩
theorem zow(q:Nat)(s:Sh)(t:Sk)(S:Value)(pg:Int)(w:World)(R:zaa w q (za1 s t S) 292):
  Calls Tryz.prog 218 #[some q,pg] w fun e w'=>∃ q3,w.heap.size<=q3/\zaa w' q3 (ze5 s (zfi s t.c pg t.k)) 332/\Turned q w w' e (za1 s (t.bind s pg) (mcV (.bn (zfi s t.c pg t.k)) q3)) 292:=by
 have D:=At1.start R;clear R;have i:=fun Y=>z1j s t.c pg t.k Y;generalize B:zfi s t.c pg t.k=O at *;obtain⟨M,C,n⟩:∃ M:Sk,Hid (M= {t with page:=pg,now:=some (.bn O)})/\M=t.bind s pg:=⟨_,hd' (by rw[Sk.bind,B]),rfl⟩;rw[<-n];clear n B;obtain⟨cs,J,m⟩:=hidv (ze5 s O);rw[<-m]at i ⊢;clear m J;obtain⟨sp,E,F⟩:=s;obtain⟨G,tk,tf,o,T,N,l,b,j⟩:=t;dsimp only at i C ⊢;replace i:=hd' i;have H:=D.cell;have V:=D.free;go_in;go_upto_region 1 with fail;have p:=D.set 8 (.int .i64 pg);generalize World.setCell _ ⟨q,8,.none⟩ (.int .i64 pg)=U at *;clear H D V;replace p:At1 q w U (za1 ⟨sp,E,F⟩ ⟨G,tk,tf,o,T,pg,l,b,j⟩ S) 292:=p;have hS:=hd' (fun (Y:World) (v:Value) (h:zaa Y q (za1 ⟨sp,E,F⟩ ⟨G,tk,tf,o,T,pg,l,b,j⟩ v) 292)=>(⟨h.cell 0,h.cell 1,h.cell 2,h.cell 3,h.cell 4,h.cell 8⟩:Y.cell? ⟨q,0,.none⟩=some (.int .i64 sp)/\Y.cell? ⟨q,1,.none⟩=some (.int .i64 E)/\Y.cell? ⟨q,2,.none⟩=some (.int .i64 F)/\Y.cell? ⟨q,3,.none⟩=some (.int .i64 G)/\Y.cell? ⟨q,4,.none⟩=some (.int .i64 tk)/\Y.cell? ⟨q,8,.none⟩=some (.int .i64 pg)))
 go_region_held3 (fun Y=>Y.cell? ⟨q,0,.none⟩=some (.int .i64 sp)/\Y.cell? ⟨q,1,.none⟩=some (.int .i64 E)/\Y.cell? ⟨q,2,.none⟩=some (.int .i64 F)/\Y.cell? ⟨q,3,.none⟩=some (.int .i64 G)/\Y.cell? ⟨q,4,.none⟩=some (.int .i64 tk)/\Y.cell? ⟨q,8,.none⟩=some (.int .i64 pg))
  (first|exact hS.out _ _ p.row.drew|exact hS.out _ _ z.row|exact hS.out _ _ ((z.set 6 _).row.cast rfl))
  ((go_at_call 225;(with_reducible refine(i.out _).mono ?_);rintro r Z ⟨q3,rfl,L,y,I⟩;have z:=(At1.drewN p 1).below I;have X:=z.cell;have V:=z.free))
 go_wp2_with fail;go_returns;exact⟨q3,Nat.le_trans p.only.size L,y.other (by have:=p.ls;have:=p.only.size;have hd:U.drew.heap.size=U.heap.size:=rfl;omega) _ _,(z.set 6 _).fin (by rw[C.out];rfl)⟩
theorem zbo.zna{q q2:Nat}{w w':World}{e:Ending}{s:Sh}{t t':Sk}(h:SkAt w q q2 s t)(b:t'.now=t.now\/t'.now=none)(f:Turned q w w' e (za1 s t' (nowV t'.now q2)) 292):zbo q q2 w w' e s t':=by
 refine⟨f.ret,⟨q2,⟨f.row,fun x i=>?_⟩,.inl rfl⟩,f.only⟩;rcases b with b|b
 ·obtain⟨l,j⟩:=h.inn x (b ▸ i);exact⟨l.only f.only (fun e=>j e.symm),j⟩
 rw[b]at i;cases i
theorem zyv(q q2:Nat)(s:Sh)(t:Sk)(x:Tk)(w:World)(h:SkAt w q q2 s t)(T:t.now=some (.tk x)):
  Calls Tryz.prog 202 #[some q] w fun e w'=>zbo q q2 w w' e s (t.after s (.tk x)):=by
 obtain⟨B,b1⟩:=h.inn _ T;have L:=At1.start h.row;rw[T]at L;have i:=fun Y (U:zaa Y q2 (zd1 s x) 305)=>zu4 q2 s x Y U;have N:zaa w q2 (zd1 s x) 305:=B;clear B;have S:=fun Y (U:zaa Y q (za1 s t (mcV (.tk x) q2)) 292)=>zmr q s t (mcV (.tk x) q2) x.ep x.es Y U;have l:=fun Y=>z1s s t.c t.k t.first Y;have hr:t.after s (.tk x)=if x.found=true then t.fin x.ep x.es else {t with now:=some (.sc (ziq s t.c t.k t.first))}:=rfl;have j:Hid (∀ Y e,Turned q w Y e (za1 s (t.fin x.ep x.es) (mcV (.tk x) q2)) 292->zbo q q2 w Y e s (t.fin x.ep x.es)):=hd' fun Y e p=>zbo.zna h (.inl rfl) (by show Turned q w Y e (za1 s (t.fin x.ep x.es) (nowV t.now q2)) _;rw[T];exact p);rw[hr];clear hr h T;rcases Bool.eq_false_or_eq_true x.found with E|E
 ·rw[if_pos E];unfold zgd at i;rw[E]at i;clear l E;simp only[if_true]at i;generalize x.ep=a at *;generalize x.es=b at *;generalize Z:t.fin a b=t2 at *;clear Z;generalize zd1 s x=b0 at *;have c6:=ce (.iface 293 (.pointer (some ⟨q2,0,.none⟩))) (L.cell 6);replace i:=hd' i;replace S:=hd' S;go_in;go_wp2_with (first|(go_at_call 212;(with_reducible refine(i.out _ N).mono ?_);rintro r w1 ⟨rfl,D⟩;have o:=L.below D)|(go_at_call 213;(with_reducible refine(S.out _ o.row).mono ?_);rintro r w2 p;obtain rfl:=p.ret));go_returns;exact j.out _ _ ((o.turned p).fin rfl)
 rw[if_neg (by rw[E];decide)];unfold zgd at i;rw[E]at i;clear j S E;simp only[Bool.false_eq_true,if_false]at i;obtain⟨y,hy,O⟩:=hidv (ziq s t.c t.k t.first);rw[<-O]at l ⊢;clear hy O;obtain⟨J,m⟩:∃ J,J=zbt s y:=⟨_,rfl⟩;rw[<-m]at l
 have j:Hid (∀ Y e q3,w.heap.size<=q3->zaa Y q3 J 324->Turned q w Y e (za1 s {t with now:=some (.sc y)} (mcV (.sc y) q3)) 292->zbo q q2 w Y e s {t with now:=some (.sc y)}):=hd' fun Y e q3 h3 C p=>⟨p.ret,⟨q3,⟨p.row,fun z hz=>by
  simp only[Option.some.injEq]at hz
  subst hz
  rw[m]at C
  exact⟨C,by have:=L.ls;omega⟩⟩,.inr h3⟩,p.only⟩
 clear m;generalize zd1 s x=b0 at *;obtain⟨sp,sc,sm⟩:=s;obtain⟨tc,tk,tf,R,tm,H,I,n,G⟩:=t;dsimp only at l j ⊢;have c6:=ce (.iface 293 (.pointer (some ⟨q2,0,.none⟩))) (L.cell 6);replace i:=hd' i;replace l:=hd' l;go_in;go_upto_region 6 with(first|(go_at_call 212;(with_reducible refine(i.out _ N).mono ?_);rintro r w1 ⟨rfl,D⟩;have o:=L.below D));clear c6;have hS:=hd' (fun (Y:World) (v:Value) (h:zaa Y q (za1 ⟨sp,sc,sm⟩ ⟨tc,tk,tf,R,tm,H,I,n,G⟩ v) 292)=>(⟨h.cell 0,h.cell 1,h.cell 2,h.cell 3,h.cell 4,h.cell 5⟩:Y.cell? ⟨q,0,.none⟩=some (.int .i64 sp)/\Y.cell? ⟨q,1,.none⟩=some (.int .i64 sc)/\Y.cell? ⟨q,2,.none⟩=some (.int .i64 sm)/\Y.cell? ⟨q,3,.none⟩=some (.int .i64 tc)/\Y.cell? ⟨q,4,.none⟩=some (.int .i64 tk)/\Y.cell? ⟨q,5,.none⟩=some (.int .i64 tf)))
 go_region_held3 (fun Y=>Y.cell? ⟨q,0,.none⟩=some (.int .i64 sp)/\Y.cell? ⟨q,1,.none⟩=some (.int .i64 sc)/\Y.cell? ⟨q,2,.none⟩=some (.int .i64 sm)/\Y.cell? ⟨q,3,.none⟩=some (.int .i64 tc)/\Y.cell? ⟨q,4,.none⟩=some (.int .i64 tk)/\Y.cell? ⟨q,5,.none⟩=some (.int .i64 tf))
  (first|exact hS.out _ _ o.row.drew|exact hS.out _ _ M.row|exact hS.out _ _ ((M.set 6 _).row.cast rfl))
  ((go_at_call 214;(with_reducible refine(l.out _).mono ?_);rintro r w2 ⟨q3,rfl,X,F,V⟩;have M:=(At1.drewN o 1).below V;have z6:=M.cell 6;have zf:=M.free))
 go_wp2_with fail;go_returns;exact j.out _ _ q3 (Nat.le_trans o.only.size X) (F.other (by have:=o.ls;have:=o.only.size;have hd:w1.drew.heap.size=w1.heap.size:=rfl;omega) _ _) ((M.set 6 _).fin rfl)
theorem zx0(q q2:Nat)(s:Sh)(t:Sk)(x:Sc)(w:World)(h:SkAt w q q2 s t)(X:t.now=some (.sc x))(hp:1<=s.p/\s.p<=64)(S:x.found=true->(0<=x.first/\x.first<64)/\(0<=x.many/\x.many<=64)):
  Calls Tryz.prog 202 #[some q] w fun e w'=>zbo q q2 w w' e s (t.after s (.sc x)):=by
 obtain⟨D,b4⟩:=h.inn _ X;have N:=At1.start h.row;rw[X]at N;have j:=fun Y (Z:zaa Y q2 (zbt s x) 324)=>zum q2 s x Y Z hp S;have R:zaa w q2 (zbt s x) 324:=D;clear D;have V:=fun Y (Z:zaa Y q (za1 s t (mcV (.sc x) q2)) 292)=>zmr q s t (mcV (.sc x) q2) (x.page s) x.i Y Z;have m:=fun Y=>z3d s t.c t.first Y;have hr:t.after s (.sc x)=if x.found=true then t.fin (x.page s) x.i else {t with now:=some (.pc (zlu s t.c t.first))}:=rfl;have l:Hid (∀ Y e,Turned q w Y e (za1 s (t.fin (x.page s) x.i) (mcV (.sc x) q2)) 292->zbo q q2 w Y e s (t.fin (x.page s) x.i)):=hd' fun Y e C=>zbo.zna h (.inl rfl) (by show Turned q w Y e (za1 s (t.fin (x.page s) x.i) (nowV t.now q2)) _;rw[X];exact C);rw[hr];clear hr h X S;unfold zgd at j;rcases Bool.eq_false_or_eq_true x.found with G|G
 ·rw[if_pos G];rw[G]at j;clear m G;simp only[if_true]at j;generalize x.page s=a at *;generalize x.i=b at *;generalize b2:t.fin a b=t2 at *;clear b2;generalize zbt s x=b3 at *;have c6:=ce (.iface 317 (.pointer (some ⟨q2,0,.none⟩))) (N.cell 6);replace j:=hd' j;replace V:=hd' V;go_in;go_wp2_with (first|(go_at_call 215;(with_reducible refine(j.out _ R).mono ?_);rintro r w1 ⟨rfl,F⟩;have B:=N.below F)|(go_at_call 213;(with_reducible refine(V.out _ B.row).mono ?_);rintro r w2 C;obtain rfl:=C.ret));go_returns;exact l.out _ _ ((B.turned C).fin rfl)
 rw[if_neg (by rw[G];decide)];rw[G]at j;clear l V G;simp only[Bool.false_eq_true,if_false]at j;obtain⟨y,hy,T⟩:=hidv (zlu s t.c t.first);rw[<-T]at m ⊢;clear hy T;obtain⟨M,n⟩:∃ M,M=zfn s y:=⟨_,rfl⟩;rw[<-n]at m
 have l:Hid (∀ Y e q3,w.heap.size<=q3->zaa Y q3 M 326->Turned q w Y e (za1 s {t with now:=some (.pc y)} (mcV (.pc y) q3)) 292->zbo q q2 w Y e s {t with now:=some (.pc y)}):=hd' fun Y e q3 h3 E C=>⟨C.ret,⟨q3,⟨C.row,fun z hz=>by
  simp only[Option.some.injEq]at hz
  subst hz
  rw[n]at E
  exact⟨E,by have:=N.ls;omega⟩⟩,.inr h3⟩,C.only⟩
 clear n;generalize zbt s x=b3 at *;obtain⟨sp,sc,sm⟩:=s;obtain⟨tc,tk,tf,U,tm,J,L,o,I⟩:=t;dsimp only at m l ⊢;have c6:=ce (.iface 317 (.pointer (some ⟨q2,0,.none⟩))) (N.cell 6);replace j:=hd' j;replace m:=hd' m;go_in;go_upto_region 12 with(first|(go_at_call 215;(with_reducible refine(j.out _ R).mono ?_);rintro r w1 ⟨rfl,F⟩;have B:=N.below F));clear c6;have hS:=hd' (fun (Y:World) (v:Value) (h:zaa Y q (za1 ⟨sp,sc,sm⟩ ⟨tc,tk,tf,U,tm,J,L,o,I⟩ v) 292)=>(⟨h.cell 0,h.cell 1,h.cell 2,h.cell 3,h.cell 4,h.cell 5⟩:Y.cell? ⟨q,0,.none⟩=some (.int .i64 sp)/\Y.cell? ⟨q,1,.none⟩=some (.int .i64 sc)/\Y.cell? ⟨q,2,.none⟩=some (.int .i64 sm)/\Y.cell? ⟨q,3,.none⟩=some (.int .i64 tc)/\Y.cell? ⟨q,4,.none⟩=some (.int .i64 tk)/\Y.cell? ⟨q,5,.none⟩=some (.int .i64 tf)))
 go_region_held3 (fun Y=>Y.cell? ⟨q,0,.none⟩=some (.int .i64 sp)/\Y.cell? ⟨q,1,.none⟩=some (.int .i64 sc)/\Y.cell? ⟨q,2,.none⟩=some (.int .i64 sm)/\Y.cell? ⟨q,3,.none⟩=some (.int .i64 tc)/\Y.cell? ⟨q,4,.none⟩=some (.int .i64 tk)/\Y.cell? ⟨q,5,.none⟩=some (.int .i64 tf))
  (first|exact hS.out _ _ B.row.drew|exact hS.out _ _ O.row|exact hS.out _ _ ((O.set 6 _).row.cast rfl))
  ((go_at_call 216;(with_reducible refine(m.out _).mono ?_);rintro r w2 ⟨q3,rfl,b1,H,b0⟩;have O:=(At1.drewN B 1).below b0;have z6:=O.cell 6;have zf:=O.free))
 go_wp2_with fail;go_returns;exact l.out _ _ q3 (Nat.le_trans B.only.size b1) (H.other (by have:=B.ls;have:=B.only.size;have hd:w1.drew.heap.size=w1.heap.size:=rfl;omega) _ _) ((O.set 6 _).fin rfl)
theorem zyx(q q2:Nat)(s:Sh)(t:Sk)(x:Pc)(w:World)(h:SkAt w q q2 s t)(H:t.now=some (.pc x))(V:1<=s.p/\s.p<=64)(B:x.found=true->(0<=x.first/\x.first<64)/\(0<=x.many/\x.many<=64)):
  Calls Tryz.prog 202 #[some q] w fun e w'=>zbo q q2 w w' e s (t.after s (.pc x)):=by
 obtain⟨m,U⟩:=h.inn _ H;have C:At1 q w w (za1 s t (mcV (.pc x) q2)) 292:=by have R:=At1.start h.row;rw[H]at R;exact R
 have L:zaa w q2 (zfn s x) 326:=m;clear m;have Z:=ce (.iface 319 (.pointer (some ⟨q2,0,.none⟩))) (C.cell 6);have b:=zu1 q2 s x w L V B;have n:=fun Y (T:zaa Y q (za1 s t (mcV (.pc x) q2)) 292)=>zow q s t (mcV (.pc x) q2) (x.page s) Y T;have N:t.after s (.pc x)=if x.found=true then t.bind s (x.page s) else {t with now:=none}:=rfl;rw[N];rcases Bool.eq_false_or_eq_true x.found with o|o
 ·rw[if_pos o];rw[o]at b;simp only[if_true]at b
  have i:Hid (∀ Y e G q3,Below w.heap.size w Y->Y.heap.size<=q3->zaa G q3 (ze5 s (zfi s t.c (x.page s) t.k)) 332->Turned q Y G e (za1 s (t.bind s (x.page s)) (mcV (.bn (zfi s t.c (x.page s) t.k)) q3)) 292->zbo q q2 w G e s (t.bind s (x.page s))):=hd' fun Y e G q3 hb h3 F j=>⟨j.ret,⟨q3,⟨j.row,fun z I=>by
   simp only[Sk.bind,Option.some.injEq]at I
   subst I
   exact⟨F,by have:=C.ls;have:=hb.size;omega⟩⟩,.inr (by have:=hb.size;omega)⟩,(Only.of_below hb).trans j.only (fun _ _ e=>e)⟩
  have S:=C;clear h H B N o;generalize za1 s t (mcV (.pc x) q2)=J at *;generalize ze5 s (zfi s t.c (x.page s) t.k)=O at *;have E:Hid (∀ Y,zaa Y q J 292->Calls Tryz.prog 218 #[some q,.int .i64 (x.page s)] Y fun e w'=>∃ q3,Y.heap.size<=q3/\zaa w' q3 O 332/\Turned q Y w' e (za1 s (t.bind s (x.page s)) (mcV (.bn (zfi s t.c (x.page s) t.k)) q3)) 292):=hd' n;generalize x.page s=a at *;generalize t.bind s a=t2 at *;clear n;replace b:=hd' b;go_in;go_wp2_with (first|(go_at_call 217;(with_reducible refine b.out.mono ?_);rintro r X ⟨rfl,l⟩;have D:=C.below l)|(go_at_call 218;(with_reducible refine(E.out _ D.row).mono ?_);rintro r w2 ⟨q3,M,y,j⟩;obtain rfl:=j.ret));go_returns;exact i.out _ _ _ q3 l M y j
 rw[if_neg (by rw[o];decide)];rw[o]at b;simp only[Bool.false_eq_true,if_false]at b;have i:Hid (∀ Y e,Turned q w Y e (za1 s {t with now:=none} .nilIface) 292->zbo q q2 w Y e s {t with now:=none}):=hd' fun Y e j=>⟨j.ret,⟨q2,⟨j.row,fun z I=>(by cases I)⟩,.inl rfl⟩,j.only⟩;clear h H B N o n;replace b:=hd' b;go_in;go_wp2_with (first|(go_at_call 217;(with_reducible refine b.out.mono ?_);rintro r X ⟨rfl,l⟩;have D:=C.below l;have z6:=D.cell 6;have zf:=D.free));go_returns;exact i.out _ _ ((D.set 6 _).fin rfl)
theorem zxn(q q2:Nat)(s:Sh)(t:Sk)(x:Sp)(w:World)(h:SkAt w q q2 s t)(M:t.now=some (.sp x))(S:1<=s.p/\s.p<=64)(D:0<=t.first/\t.first<64)(O:0<=t.many/\t.many<64):
  Calls Tryz.prog 202 #[some q] w fun e w'=>zbo q q2 w w' e s (t.after s (.sp x)):=by
 obtain⟨n,Z⟩:=h.inn _ M;have F:At1 q w w (za1 s t (mcV (.sp x) q2)) 292:=by have D:=At1.start h.row;rw[M]at D;exact D
 have R:zaa w q2 (zc9 s x) 329:=n;clear n;have c6:=ce (.iface 295 (.pointer (some ⟨q2,0,.none⟩))) (F.cell 6);have b:=zpa q2 (zc9 s x) x.held w R rfl;have y:=fun Y (G:zaa Y q (za1 s t (mcV (.sp x) q2)) 292)=>zow q s t (mcV (.sp x) q2) (t.here s) Y G;have l:=fun Y (G:zaa Y q (za1 s t (mcV (.sp x) q2)) 292)=>zo6 q s t (mcV (.sp x) q2) Y G S D (by omega);have m:=fun Y (G:zaa Y q (za1 s t (mcV (.sp x) q2)) 292)=>zol q s t (mcV (.sp x) q2) Y G O;have U:t.after s (.sp x)=if x.held=true then t.bind s (t.here s) else t.turn s:=rfl;rw[U];rcases Bool.eq_false_or_eq_true x.held with B|B
 ·rw[if_pos B];rw[B]at b
  have j:Hid (∀ Y e L q3,Below w.heap.size w Y->Y.heap.size<=q3->zaa L q3 (ze5 s (zfi s t.c (t.here s) t.k)) 332->Turned q Y L e (za1 s (t.bind s (t.here s)) (mcV (.bn (zfi s t.c (t.here s) t.k)) q3)) 292->zbo q q2 w L e s (t.bind s (t.here s))):=hd' fun Y e L q3 hb h3 J i=>⟨i.ret,⟨q3,⟨i.row,fun z N=>by
   simp only[Sk.bind,Option.some.injEq]at N
   subst N
   exact⟨J,by have:=F.ls;have:=hb.size;omega⟩⟩,.inr (by have:=hb.size;omega)⟩,(Only.of_below hb).trans i.only (fun _ _ e=>e)⟩
  clear h M U B m D O S;generalize za1 s t (mcV (.sp x) q2)=E at *;generalize ze5 s (zfi s t.c (t.here s) t.k)=V at *;have I:Hid (∀ Y,zaa Y q E 292->Calls Tryz.prog 218 #[some q,.int .i64 (t.here s)] Y fun e w'=>∃ q3,Y.heap.size<=q3/\zaa w' q3 V 332/\Turned q Y w' e (za1 s (t.bind s (t.here s)) (mcV (.bn (zfi s t.c (t.here s) t.k)) q3)) 292):=hd' y;generalize t.here s=a at *;generalize t.bind s a=t2 at *;clear y;replace b:=hd' b;replace l:=hd' l;go_in;go_wp2_with (first|(go_at_call 219;(with_reducible refine b.out.mono ?_);rintro r w1 ⟨rfl,o⟩;obtain rfl:=o.symm)|(go_at_call 220;(with_reducible refine(l.out _ F.row).mono ?_);rintro r w2 ⟨rfl,H⟩;have X:=F.below H)|(go_at_call 218;(with_reducible refine(I.out _ X.row).mono ?_);rintro r w3 ⟨q3,T,C,i⟩;obtain rfl:=i.ret));go_returns;exact j.out _ _ _ q3 H T C i
 rw[if_neg (by rw[B];decide)];rw[B]at b;have j:Hid (∀ Y e,Turned q w Y e (za1 s (t.turn s) .nilIface) 292->zbo q q2 w Y e s (t.turn s)):=hd' fun Y e i=>⟨i.ret,⟨q2,⟨i.row,fun z N=>(by cases N)⟩,.inl rfl⟩,i.only⟩;clear h M U B y l D O S;generalize za1 s t (mcV (.sp x) q2)=E at *;generalize t.turn s=t2 at *;replace b:=hd' b;replace m:=hd' m;go_in;go_wp2_with (first|(go_at_call 219;(with_reducible refine b.out.mono ?_);rintro r w1 ⟨rfl,o⟩;obtain rfl:=o.symm)|(go_at_call 221;(with_reducible refine(m.out _ F.row).mono ?_);rintro r w2 i;obtain rfl:=i.ret));go_returns;exact j.out _ _ i
theorem zy4(q q2:Nat)(s:Sh)(t:Sk)(x:Bn)(w:World)(h:SkAt w q q2 s t)(l:t.now=some (.bn x)):
  Calls Tryz.prog 202 #[some q] w fun e w'=>zbo q q2 w w' e s (t.after s (.bn x)):=by
 obtain⟨b,z⟩:=h.inn _ l;have m:At1 q w w (za1 s t (mcV (.bn x) q2)) 292:=by have o:=At1.start h.row;rw[l]at o;exact o
 have y:zaa w q2 (ze5 s x) 332:=b;clear b;have B:=ce (.iface 322 (.pointer (some ⟨q2,0,.none⟩))) (m.cell 6);have n:=zmr q s t (mcV (.bn x) q2) t.page 0 w m.row;have p:t.after s (.bn x)=t.fin t.page 0:=rfl;rw[p];have i:Hid (∀ Y e,Turned q w Y e (za1 s (t.fin t.page 0) (mcV (.bn x) q2)) 292->zbo q q2 w Y e s (t.fin t.page 0)):=hd' fun Y e j=>zbo.zna h (.inl rfl) (by show Turned q w Y e (za1 s (t.fin t.page 0) (nowV t.now q2)) _;rw[l];exact j);have C:=ci t.page (m.cell 8);clear h l p;generalize t.fin t.page 0=D at *;generalize t.page=pg at *;replace n:=hd' n;go_in;go_wp2_with (first|(go_at_call 213;(with_reducible refine n.out.mono ?_);rintro r E j;obtain rfl:=j.ret));go_returns;exact i.out _ _ j
theorem zvb(q q2:Nat)(s:Sh)(t:Sk)(x:Mc)(w:World)(h:SkAt w q q2 s t)(b:t.now=some x)(l:1<=s.p/\s.p<=64)(n:skOk s t)(hd:t.done=false):
  Calls Tryz.prog 202 #[some q] w fun e w'=>zbo q q2 w w' e s (t.after s x):=by
 obtain⟨c1,c2,c3,o,m⟩:=n.cl hd;obtain⟨i,_⟩:=m x b;cases x with
 |tk x=>exact zyv q q2 s t x w h b
 |sc x=>exact zx0 q q2 s t x w h b l (fun j=>by have:=i.fd j;omega)
 |pc x=>exact zyx q q2 s t x w h b l (fun j=>by have:=i.fd j;omega)
 |sp x=>exact zxn q q2 s t x w h b l (by omega) (by omega)
 |bn x=>exact zy4 q q2 s t x w h b
end

end Go.Proofs.YtkbddndcegpllaaGreat
