/- Texts bound together: CliU CliV CliW CliX. -/
import Derived.Test.YtedcnffebdpmmaaGreatBu26

set_option linter.all false
set_option maxHeartbeats 4000000
set_option maxRecDepth 100000
namespace Go.Proofs.YtedcnffebdpmmaaGreat

attribute [local go_sem] za7 zan zat zg2

open Go.RowKit

attribute [local go_sem ↓] Go.wp_at_zero Go.wp_at_succ

theorem z7m{s:Sh}{cl:Int}{r:Rs}{c:Option Cm}(h:jbIs s cl (.mal r c))(hd:(Jb.mal r c).done=false):r.done=false\/(r.done=true/\c=none/\∃ b,r.got=some b):=by
 have f:(r.done&&(!r.got.isSome||zck c))=false:=hd;cases hrd:r.done
 ·exact .inl rfl
 rw[hrd,Bool.true_and,Bool.or_eq_false_iff]at f;refine .inr ⟨rfl,?_,?_⟩
 ·rcases hc:c with _|x
  ·rfl
  have:=h.2 x hc;have i:=f.2;rw[hc]at i;have i:x.done=false:=i;rw[this.2.1]at i;cases i
 rcases hg:r.got with _|b
 ·have j:=f.1;rw[hg]at j;cases j
 exact⟨b,rfl⟩
structure zhl (G:Nat->Prop) (p b:Nat) (w w':World) (jv:Value) (s:Sh) (cl:Int) (j:Jb) (m:Mem):Prop where
 wds:zaq w' p b (j.step s cl m).2
 only:Only (fun k=> G k\/k=p\/k=b) w w'
 job:JbO (grow G w w') w' jv s cl (j.step s cl m).1
theorem yhq{q p B1 B2:Nat}{T:TypeId}{x r0:Value}{f:FuncId}{w:World}{Q:Ending->World->Prop}(h1:w.cell? ⟨B1,0,.none⟩=some (.pointer (some ⟨q,0,.none⟩)))(h2:w.cell? ⟨B2,0,.none⟩=some (.pointer (some ⟨p,0,.none⟩)))(s:B1<w.heap.size)(t:B2<w.heap.size)(y:q<w.heap.size)
  (o:w.cell? ⟨q,8,.none⟩=some (.iface T x)) (m:∀ W:World,(method (Tryz.prog.types.size+Made.depth) T x "Step").run Tryz.prog W= .ok (f,r0) W) (n:∀ W:World,(callFunc f #[r0,some p]).run Tryz.prog W= .ok (.enter f #[r0,some p]) W)
  (b:∀ Y,Below w.heap.size w Y->Calls Tryz.prog f #[r0,some p] Y fun e w'=>e= .returned (.tuple #[])/\Q e w'):
  Calls Tryz.prog 81 #[some B1,some B2] w fun e w'=>e= .returned (.tuple #[])/\Q e w':=by
 replace b:=hd' b;simp[go_sem]at m;go_in;go_wp2_with fail;refine wret 5 ?_;repeat (go_big_quiet_step (fail))
 refine wqn fun Z i=>?_;have j:=i;go_wp2_with ((with_reducible refine(b.out _ j).mono ?_);rintro r z ⟨rfl,l⟩);go_returns;exact⟨rfl,l⟩
theorem zh7{G:Nat->Prop}{w Y Z:World}(hb:Below w.heap.size w Y)(hs:Y.heap.size<=Z.heap.size):∀ k,grow G Y Z k->grow G w Z k:=fun k b=>b.imp id (fun h=>⟨Nat.le_trans hb.size h.1,h.2⟩)
theorem zhl.mk'{G:Nat->Prop}{p b:Nat}{w Y Z:World}{jv:Value}{s:Sh}{cl:Int}{j:Jb}{m:Mem}(hb:Below w.heap.size w Y)(h1:zaq Z p b (j.step s cl m).2)(h2:Only (fun k=>G k\/k=p\/k=b) Y Z)(h3:JbO (grow G w Z) Z jv s cl (j.step s cl m).1):zhl G p b w Z jv s cl j m:=
 ⟨h1,(Only.of_below (F:=fun k=>G k\/k=p\/k=b) hb).trans h2 (fun _ _ e=>e),h3⟩
theorem z6s{G:Nat->Prop}{q p b B1 B2:Nat}{s:Sh}{cl:Int}{j:Jb}{m:Mem}{w:World}{jv:Value}(h1:w.cell? ⟨B1,0,.none⟩=some (.pointer (some ⟨q,0,.none⟩)))(h2:w.cell? ⟨B2,0,.none⟩=some (.pointer (some ⟨p,0,.none⟩)))(J:B1<w.heap.size)(L:B2<w.heap.size)(M:q<w.heap.size)
  (E:w.cell? ⟨q,8,.none⟩=some jv) (o:JbO G w jv s cl j) (B:∀ k,G k->k<w.heap.size) (I:zaq w p b m) (H:¬ G p) (hb:¬ G b) (F:Fits s m) (z:jbIs s cl j) (hd:j.done=false) (hs:m.st<1000000000):
  Calls Tryz.prog 81 #[some B1,some B2] w fun e w'=>e= .returned (.tuple #[])/\zhl G p b w w' jv s cl j m:=by
 cases j with
 |mal r c=>
  obtain⟨q1,rfl,o⟩:=o;refine yhq h1 h2 J L M E (fun _=>by kernel_rfl) (fun _=>by kernel_rfl) (Q:=fun _ w'=>zhl G p b w w' _ s cl (.mal r c) m) fun Y i=>(zt8 (o.below i) (I.below i) H hb F ⟨fun x y=>(z.1.sk x y).1.ok,fun x y=>(z.1.rn x y).ok⟩ hs (z7m z hd)).mono fun e w' hS=>?_;obtain⟨n,r',c',X,C⟩:=hS;refine⟨n.ret,.mk' i n.wds n.only ?_⟩;rw[X];obtain⟨S,N,R,Z,T,D,U,V,O⟩:=C;refine⟨q1,rfl,fun k l=>?_,zh7 i n.only.size _ N,R,Z,T,fun k l=>⟨zh7 i n.only.size _ (D k l).1,(D k l).2⟩,U,V,fun x y=>⟨⟨zh7 i n.only.size _ (O x y).1.1,(O x y).1.2⟩,(O x y).2⟩⟩;rcases l with l|l
  ·exact Nat.lt_of_lt_of_le (B k l) (Nat.le_trans i.size n.only.size)
  exact l.2
 |fre f=>obtain⟨q1,rfl,o⟩:=o;refine yhq h1 h2 J L M E (fun _=>by kernel_rfl) (fun _=>by kernel_rfl) (Q:=fun _ w'=>zhl G p b w w' _ s cl (.fre f) m) fun Y i=>(zw0 (o.below i) (I.below i) H hb F z.ok hs).mono fun e w' hS=>?_;obtain⟨n,C⟩:=hS;refine⟨n.ret,.mk' i n.wds n.only ?_⟩;obtain⟨S,R,N,D⟩:=C;exact⟨q1,rfl,zh7 i n.only.size _ S,R,N,fun h=>zh7 i n.only.size _ (D h)⟩
 |aga t=>
  obtain⟨q1,rfl,o⟩:=o;refine yhq h1 h2 J L M E (fun _=>by kernel_rfl) (fun _=>by kernel_rfl) (Q:=fun _ w'=>zhl G p b w w' _ s cl (.aga t) m) fun Y i=>(zza (o.below i) (I.below i) H hb F z.ok hs).mono fun e w' hS=>?_;obtain⟨n,C⟩:=hS;refine⟨n.ret,.mk' i n.wds n.only ⟨q1,rfl,C.weak (zh7 i n.only.size) fun k l=>?_⟩⟩;rcases l with l|l
  ·exact Nat.lt_of_lt_of_le (B k l) (Nat.le_trans i.size n.only.size)
  exact l.2
 |hei a=>
  obtain⟨q1,rfl,o⟩:=o;refine yhq h1 h2 J L M E (fun _=>by kernel_rfl) (fun _=>by kernel_rfl) (Q:=fun _ w'=>zhl G p b w w' _ s cl (.hei a) m) fun Y i=>(zyd q1 p b s a m Y (o.below i).2 (I.below i) (fun e=>H (e ▸ o.1)) (fun e=>hb (e ▸ o.1)) F z.1 hs).mono fun e w' hS=>?_;refine⟨hS.ret,.mk' i hS.wds (hS.only.weak fun k l=>?_) ⟨q1,rfl,.inl o.1,hS.row⟩⟩;rcases l with rfl|l|l
  ·exact .inl o.1
  ·exact .inr (.inl l)
  exact .inr (.inr l)
def zdv (k:Kl):List Fr:=match k.job with
 | some _=> [⟨k.op.k,k.steps, [k.op.a,k.op.n,0,0,0,0,0,0]⟩]
 | none=> []
structure KlO (F:Nat->Prop) (w:World) (q:Nat) (s:Sh) (k:Kl):Prop where
 lt:∀ b,F b->b < w.heap.size
 own:F q
 at':∃ sp sl jv G,zaa w q (zat s k (!k.job.isSome) jv (.pointer (some ⟨sp,0,.none⟩))) 122/\SK 0 w sp sl 1 (zdv k)/\(∀ b,foot sp sl b->F b/\b≠q)/\(∀ b,G b->F b/\b≠q/\¬ foot sp sl b)/\(k.job=none->jv= .nilIface)/\(∀ j,k.job=some j->JbO G w jv s k.c j)
theorem KlO.only{F G:Nat->Prop}{w w':World}{q:Nat}{s:Sh}{k:Kl}(h:KlO F w q s k)(f:Only G w w')(hd:∀ b,F b->¬ G b):KlO F w' q s k:=by
 obtain⟨h1,h2,sp,sl,jv,H,m,n,i,l,o,p⟩:=h;exact⟨fun b hb=>Nat.lt_of_lt_of_le (h1 b hb) f.size,h2,sp,sl,jv,H,m.only f (hd q h2),f.stk n (fun b hb=>hd b (i b hb).1),i,l,o,fun j r=>(p j r).only f (fun b hb=>hd b (l b hb).1)⟩
theorem KlO.below{F:Nat->Prop}{w w':World}{q:Nat}{s:Sh}{k:Kl}(h:KlO F w q s k)(hb:Below w.heap.size w w'):KlO F w' q s k:=h.only (Only.of_below (F:=fun _=>False) hb) (fun _ _ e=>e)
theorem KlO.weak{F G:Nat->Prop}{w:World}{q:Nat}{s:Sh}{k:Kl}(h:KlO F w q s k)(f:∀ b,F b->G b)(p:∀ b,G b->b<w.heap.size):KlO G w q s k:=by
 obtain⟨h1,h2,sp,sl,jv,H,l,m,i,j,n,o⟩:=h;exact⟨p,f q h2,sp,sl,jv,H,l,m,fun b hb=>⟨f b (i b hb).1,(i b hb).2⟩,fun b hb=>⟨f b (j b hb).1,(j b hb).2⟩,n,o⟩
theorem ztx{q sp:Nat}{s:Sh}{k:Kl}{jv sl:Value}{most:Int}{fs:List Fr}{w:World}(i:Bool)(h:zaa w q (zat s k i jv (.pointer (some ⟨sp,0,.none⟩))) 122)(hs:SK 0 w sp sl most fs)(j:i=false->fs.length=1):
  Calls Tryz.prog 29 #[some q] w fun e w'=>e= .returned (.bool i)/\w'=w:=by
 have n:q<w.heap.size:=h.lt;have m:=h.cell;have b:=zft hs;cases i
 ·rw[j rfl]at b;replace b:=hd' b;clear h hs j;go_in;go_wp2_with (go_at_call 60;(with_reducible refine b.out.mono ?_);rintro r o ⟨rfl,l⟩;obtain rfl:=l.symm);go_returns;exact⟨rfl,rfl⟩
 clear h hs j b;go_in;go_wp2_with fail;go_returns;exact⟨rfl,rfl⟩
theorem KlO.rests{F:Nat->Prop}{w:World}{q:Nat}{s:Sh}{k:Kl}(h:KlO F w q s k):Calls Tryz.prog 29 #[some q] w fun e w'=>e= .returned (.bool k.rests)/\w'=w:=by
 obtain⟨h1,h2,sp,sl,jv,H,b,i,l,m,n,o⟩:=h;refine ztx (!k.job.isSome) b i (fun e=>?_);unfold zdv;rcases hj:k.job with _|j
 ·rw[hj]at e;cases e
 rfl
structure ztp (F:Nat->Prop) (q p b:Nat) (w w':World) (r:Ending) (s:Sh) (k:Kl) (m:Mem):Prop where
 ret:∃ v,r= .returned (.tuple #[v,.int .i64 (k.step s m).2.2.2])/\w'.ownsRow w.heap.size 77 8 v (k.step s m).2.2.1.length ((k.step s m).2.2.1.flatMap fun e=> e.cells.toList)
 wds:zaq w' p b (k.step s m).2.1
 kl:KlO (grow F w w') w' q s (k.step s m).1
 only:Only (fun i=> F i\/i=p\/i=b) w w'
theorem zuq{F:Nat->Prop}{q p b:Nat}{s:Sh}{k:Kl}{m:Mem}{w:World}(h:KlO F w q s k)(E:zaq w p b m)(B:k.job=none):
  Calls Tryz.prog 52 #[some q,some p] w fun r w'=>ztp F q p b w w' r s k m:=by
 have o:k.step s m=(k,m, [],2):=by unfold Kl.step;rw[B]
 have l:=((Below.refl w.heap.size w).alloc lr (.cells #[some q] 43)).alloc (by simp) (.cells #[some p] 66);have y:k.rests=true:=by unfold Kl.rests;rw[B];rfl
 have i:=(h.below l).rests;rw[y]at i;replace i:=hd' i;have n:Hid (∀ W,Below w.heap.size w W->ztp F q p b w W (.returned (.tuple #[.slice none 0 0,.int .i64 2])) s k m):=hd' fun W hb=>by
  refine⟨⟨_,by rw[o],?_⟩,?_,?_,Only.of_below hb⟩
  ·rw[o];exact zel _ _
  ·rw[o];exact E.below hb
  rw[o];exact(h.below hb).weak (fun b hb=>.inl hb) (zec h.lt hb.size)
 clear h E o B y;go_in;go_upto_region 1 with fail;have z:zaa ((w.alloc (.cells #[some q] 43)).alloc (.cells #[some p] 66)) w.heap.size #[some q] 43:=zaa.alloc (heap_alloc_new _ _) _;generalize (w.alloc (.cells #[some q] 43)).alloc (.cells #[some p] 66)=X at *;obtain⟨H,I,j⟩:=hidv w.heap.size;rw[<-j]at z ⊢;clear j;have J:H<X.heap.size:=z.lt;have G:=z.cell;have D:∀ W:World,(binOp .eql 43 (.pointer (some ⟨q,0,.none⟩)) (.pointer none)).run Tryz.prog W= .ok (.bool false) W:=fun W=>by kernel_rfl
 go_wp2_with (go_at_call 29;(with_reducible refine i.out.mono ?_);rintro r L ⟨rfl,C⟩;obtain rfl:=C.symm);go_returns;exact n.out _ l
theorem ybb{w:World}{B C:Nat}{E:TypeId}{size:Nat}{v:Value}{n:Nat}{xs:List Value}(h:w.ownsRow B E size v n xs)(hc:C<=B):w.ownsRow C E size v n xs:=by
 refine⟨h.1,?_⟩;rcases h.2 with f|⟨g,cap,b,rfl,h1,r⟩
 ·exact .inl f
 exact .inr ⟨g,cap,b,rfl,Nat.le_trans hc h1,r⟩
theorem size_alloc(w:World)(o:Obj):(w.alloc o).heap.size=w.heap.size+1:=by simp
theorem zzj{F G L:Nat->Prop}{q p b sp:Nat}{s:Sh}{k:Kl}{m:Mem}{j:Jb}{jv sl:Value}{w Y Z:World}{r:Ending}(N:∀ i,F i->i<w.heap.size)(S:F q)(X:¬ F p)(hb:¬ F b)(U:k.job=some j)(t:∀ i,foot sp sl i->F i/\i≠q)(O:∀ i,G i->F i/\i≠q/\¬ foot sp sl i)
  (C:∀ i,L i->G i\/(w.heap.size<=i/\i<Y.heap.size)) (T:zaq Y p b (j.step s k.c m).2) (E:Only (fun i=>F i\/i=p\/i=b) w Y) (R:JbO L Y jv s k.c (j.step s k.c m).1)
  (z:zbp q sp s {k with told:=k.told||(j.step s k.c m).1.gave,steps:=k.steps+1} (j.step s k.c m).1.done jv sl 1 [⟨k.op.k,k.steps+1, [k.op.a,k.op.n,0,0,0,0,0,0]⟩] (k.tells (j.step s k.c m).1) Y Z r):
  ∃ v,r= .returned v/\ztp F q p b w Z (.returned (.tuple #[v,.int .i64 0])) s k m:=by
 have M:k.step s m=(k.after (j.step s k.c m).1,(j.step s k.c m).2,k.tells (j.step s k.c m).1,0):=by unfold Kl.step;rw[U]
 obtain⟨v,hv,H⟩:=z.ret;have I:=E.size;have J:=z.only.size;have V:=N q S;have y:∀ i,(i=q\/foot sp sl i)->F i:=fun i hi=>by rcases hi with rfl|hi;exact S;exact(t i hi).1
 have o:∀ i,L i->¬ (i=q\/foot sp sl i):=fun i hi e=>by
  rcases C i hi with h|h
  ·rcases e with e|e
   ·exact(O i h).2.1 e
   exact(O i h).2.2 e
  have:=N i (y i e);omega
 refine⟨v,hv,⟨⟨_,by rw[M],?_⟩,?_,?_,?_⟩⟩
 ·rw[M];exact ybb H I
 ·rw[M];exact T.only z.only (fun e=>X (y p e)) (fun e=>hb (y b e))
 ·rw[M];generalize (j.step s k.c m).1=j' at *;have D:=R.only z.only o;have f:=z.row;have l:=z.stk;refine⟨zec N (Nat.le_trans I J),.inl S,?_⟩;cases hd:j'.done
  ·rw[hd]at f l;refine⟨sp,sl,jv,L,?_,?_,fun i hi=>⟨.inl (t i hi).1,(t i hi).2⟩,fun i hi=>⟨?_,fun e=>o i hi (.inl e),fun e=>o i hi (.inr e)⟩,fun e=>?_,fun x B=>?_⟩
   ·have e:(!(k.after j').job.isSome)=false:=by simp[Kl.after,hd]
    rw[e];exact f
   ·have e:zdv (k.after j')= [⟨k.op.k,k.steps+1, [k.op.a,k.op.n,0,0,0,0,0,0]⟩]:=by unfold zdv Kl.after;simp[hd]
    rw[e];exact l
   ·rcases C i hi with h|h
    ·exact .inl (O i h).1
    exact .inr ⟨h.1,Nat.lt_of_lt_of_le h.2 J⟩
   ·simp[Kl.after,hd]at e
   have e:(k.after j').job=some j':=by simp[Kl.after,hd]
   rw[e]at B;injection B with B;subst B;exact D
  rw[hd]at f l;refine⟨sp,.slice none 0 0,.nilIface,fun _=>False,?_,?_,fun i hi=>?_,fun i hi=>hi.elim,fun _=>rfl,fun x B=>?_⟩
  ·have e:(!(k.after j').job.isSome)=true:=by simp[Kl.after,hd]
   rw[e];exact f
  ·have e:zdv (k.after j')= []:=by unfold zdv Kl.after;simp[hd]
   rw[e];exact l
  ·rcases hi with rfl|hi
   ·exact⟨.inl (t _ (.inl rfl)).1,(t _ (.inl rfl)).2⟩
   cases hi
  simp[Kl.after,hd]at B
 exact E.trans z.only (fun i _ hi=>.inl (y i hi))
theorem zty{F:Nat->Prop}{q p b:Nat}{s:Sh}{k:Kl}{m:Mem}{j:Jb}{w:World}(h:KlO F w q s k)(hw:zaq w p b m)(hp:¬ F p)(hb:¬ F b)(hf:Fits s m)(c5:m.fit)(hj:k.job=some j)(c8:jbIs s k.c j)(c7:j.done=false)(hc:0<=k.c/\k.c<s.c)(er:0<=k.steps/\k.steps<1000000)(hs:m.st<1000000000):
  Calls Tryz.prog 52 #[some q,some p] w fun r w'=>ztp F q p b w w' r s k m:=by
 have ca:k.rests=false:=by unfold Kl.rests;rw[hj];rfl
 obtain⟨hF,hq,sp,sl,jv,G,b4,b6,B,V,_,bj⟩:=id h;have hJ:=bj j hj;clear bj;have hi:(!k.job.isSome)=false:=by rw[hj];rfl
 rw[hi]at b4;have c6:zdv k= [⟨k.op.k,k.steps, [k.op.a,k.op.n,0,0,0,0,0,0]⟩]:=by unfold zdv;rw[hj]
 rw[c6]at b6;have e4:IntKind.i64.wrap (k.steps+1)=k.steps+1:=by rw[IntKind.wrap_i64];omega
 have R:=((Below.refl w.heap.size w).alloc lr (.cells #[some q] 43)).alloc (by simp) (.cells #[some p] 66);have hH:zaa ((w.alloc (.cells #[some q] 43)).alloc (.cells #[some p] 66)) w.heap.size #[some q] 43:=zaa.alloc (heap_alloc_new _ _) _;have hK:zaa ((w.alloc (.cells #[some q] 43)).alloc (.cells #[some p] 66)) (w.heap.size+1) #[some p] 66:=by have h:=heap_alloc_new (w.alloc (.cells #[some q] 43)) (.cells #[some p] 66);rw[size_alloc]at h;exact h
 have b3:=(h.below R).rests;rw[ca]at b3;replace b3:=hd' b3;clear h ca hi c6;have bm:((w.alloc (.cells #[some q] 43)).alloc (.cells #[some p] 66)).heap.size=w.heap.size+2:=by rw[size_alloc,size_alloc]
 have C:=b4.below R;have ba:=b6.below R;have bx:=hJ.below R;have cg:=hw.below R;go_in;go_upto_region 1 with fail;generalize (w.alloc (.cells #[some q] 43)).alloc (.cells #[some p] 66)=X at *;obtain⟨B2,eh,bf⟩:∃ H,Hid (H=w.heap.size+1)/\H=w.heap.size+1:=⟨_,hd' rfl,rfl⟩;obtain⟨B1,eg,bc⟩:=hidv w.heap.size;simp only[<-bf]at hK ⊢;rw[<-bc]at hH ⊢;have ec:w.heap.size<=B1:=by omega
 have ed:w.heap.size<=B2:=by omega
 clear bc bf;have l1:B1<X.heap.size:=hH.lt;have c0:=ce (.pointer (some ⟨q,0,.none⟩)) (hH.cell 0);have ef:∀ W:World,(binOp .eql 43 (.pointer (some ⟨q,0,.none⟩)) (.pointer none)).run Tryz.prog W= .ok (.bool false) W:=fun W=>by kernel_rfl
 have ej:∀ (fn:Fn) (first cap:Array Value) (w:World),(Instr.makeFunc fn first cap).run Tryz.prog w= .ok (.func fn first cap) w:=fun _ _ _ _=>rfl;have e9:=hF q hq;have b0:∀ i,G i->i<w.heap.size:=fun i hi=>hF i (V i hi).1;have ek:=hw.ltp;have ei:=hw.ltb;have l:=(Below.refl X.heap.size X).alloc lr (.cells #[.bool false] 4);have b1:=z6s (w:=X.alloc (.cells #[.bool false] 4)) (q:=q) (p:=p) (b:=b) (G:=G) (s:=s) (cl:=k.c) (j:=j) (m:=m) (jv:=jv) (B1:=B1) (B2:=B2) ((hH.below l).cell 0) ((hK.below l).cell 0) (hH.below l).lt (hK.below l).lt (C.below l).lt ((C.below l).cell 8) (bx.below l) (fun i hi=>by have:=b0 i hi;rw[size_alloc];omega) (cg.below l) (fun e=>hp (V p e).1) (fun e=>hb (V b e).1) hf c8 c7 hs
 have hg:=zyf B1 B2 X (Q:=fun Y=>zhl G p b (X.alloc (.cells #[.bool false] 4)) Y jv s k.c j m) (b1.mono fun e w' y=>⟨y.1,y.2,by
  have hn:zaa (X.alloc (.cells #[.bool false] 4)) X.heap.size #[.bool false] 4:=heap_alloc_new _ _
  refine hn.only y.2.only (fun e=>?_)
  rcases e with e|e|e
  ·have:=b0 _ e;omega
  ·omega
  ·omega⟩)
 replace hg:=hd' hg;clear b1;go_upto_region 7 with(first|(go_at_call 29;(with_reducible refine b3.out.mono ?_);rintro r w1 ⟨rfl,e2⟩;obtain rfl:=e2.symm)|(go_at_call 80;(with_reducible refine hg.out.mono ?_);rintro r T ⟨rfl,Y,hQ,bn⟩;have N:zaa T B1 #[some q] 43:=(by rw[bn];exact((hH.below l).only hQ.only (fun e=>by rcases e with e|e|e;have:=b0 _ e;omega;omega;omega)).other (by omega) _ _);have cq:=ce (.pointer (some ⟨q,0,.none⟩)) (N.cell 0);have e5:=N.lt));have D:T=Y.setCell ⟨w.heap.size+2,0,.none⟩ (.bool true):=by rw[bn,bm]
 rw[<-D];have c4:X.heap.size=w.heap.size+2:=bm;have bz:(X.alloc (.cells #[.bool false] 4)).heap.size=w.heap.size+3:=by rw[size_alloc,c4]
 have cb:T.heap.size=Y.heap.size:=by rw[D];exact size_set _ _ _
 have cm:Only (fun i=>F i\/i=p\/i=b) w (X.alloc (.cells #[.bool false] 4)):=Only.of_below (zab R l);have cp:Only (fun i=>F i\/i=p\/i=b) w Y:=cm.trans hQ.only (fun i _ hi=>hi.imp (fun e=>(V i e).1) id);have ch:Only (fun i=>F i\/i=p\/i=b) w T:=by rw[D];exact Only.setCell cp (.inr (by show w.heap.size<=w.heap.size+2;omega)) _
 have bp:∀ i,(i=q\/foot sp sl i)->¬ (G i\/i=p\/i=b):=fun i hi e=>by
  have bs:F i:=by rcases hi with rfl|hi;exact hq;exact(B i hi).1
  rcases e with e|e|e
  ·rcases hi with rfl|hi
   ·exact(V _ e).2.1 rfl
   exact(V i e).2.2 hi
  ·exact hp (e ▸ bs)
  exact hb (e ▸ bs)
 have b2:∀ i,(i=q\/foot sp sl i)->i<w.heap.size:=fun i hi=>by rcases hi with rfl|hi;exact e9;exact hF i (B i hi).1
 have E:Only (fun i=>i=w.heap.size+2) Y T:=by rw[D];exact Only.setCell (F:=fun i=>i=w.heap.size+2) (Only.refl _ _) (.inl rfl) _
 have o:=((C.below l).only hQ.only (bp q (.inl rfl))).only E (by omega);have J:=E.stk (hQ.only.stk (ba.below l) (fun i hi=>bp i (.inr hi))) (fun i hi e=>by have:=b2 i (.inr hi);omega)
 have bk:=hQ.job.only E (fun i hi e=>by
  rcases hi with hi|hi
  ·have:=b0 i hi;omega
  ·omega)
 have cc:=hQ.wds.only E (by omega) (by omega);have O:∀ i,grow G (X.alloc (.cells #[.bool false] 4)) Y i->G i\/(w.heap.size<=i/\i<T.heap.size):=fun i hi=>by
  rcases hi with hi|hi
  ·exact .inl hi
  exact .inr (by omega)
 generalize cv:grow G (X.alloc (.cells #[.bool false] 4)) Y=G2 at *;clear bn D hQ hg bm c4 bz cm cp E l b3 C ba bx cg hJ b4 b6 hw cv cb bp;have eu:∀ Z W:World,Only (fun i=>i=q\/foot sp sl i) Z W->Only (fun i=>F i\/i=p\/i=b) Z W:=fun Z W y=>y.weak (fun i hi=>.inl (by rcases hi with rfl|hi;exact hq;exact(B i hi).1));have bi:=hd' (fun (W:World) (r:Ending) (Y2:World) (h1:zaq Y2 p b (j.step s k.c m).2) (h2:Only (fun i=>F i\/i=p\/i=b) w Y2) (h3:JbO G2 Y2 jv s k.c (j.step s k.c m).1) (h4:∀ i,G2 i->G i\/(w.heap.size<=i/\i<Y2.heap.size)) (hT:zbp q sp s {k with told:=k.told||(j.step s k.c m).1.gave,steps:=k.steps+1} (j.step s k.c m).1.done jv sl 1 [⟨k.op.k,k.steps+1, [k.op.a,k.op.n,0,0,0,0,0,0]⟩] (k.tells (j.step s k.c m).1) Y2 W r)=>zzj hF hq hp hb hj B V h4 h1 h2 h3 hT);have c9:=(zqw c8 hc c7 hf (by exact c5)).2.1
 have L:=hd' (fun (Y2:World) (h1:zaa Y2 q (zat s {k with steps:=k.steps+1} false jv (.pointer (some ⟨sp,0,.none⟩))) 122) (h2:SK 0 Y2 sp sl 1 [⟨k.op.k,k.steps+1, [k.op.a,k.op.n,0,0,0,0,0,0]⟩]) (h3:JbO G2 Y2 jv s k.c (j.step s k.c m).1) (h4:∀ i,G2 i->i<Y2.heap.size)=>z6y (k:= {k with steps:=k.steps+1}) h1 h2 (fun e=>(B q e).2 rfl) h3 (fun i hi=>⟨fun e=>by
   rcases O i hi with y|y
   ·exact(V i y).2.1 e
   ·have:=b2 i (.inl e);omega,fun e=>by
   rcases O i hi with y|y
   ·exact(V i y).2.2 e
   ·have:=b2 i (.inr e);omega⟩) h4 c9 hf.may hc)
 generalize (j.step s k.c m).1=j2 at *;generalize (j.step s k.c m).2=m2 at *;obtain⟨eb,sc,sm⟩:=s;obtain⟨kc,kf,⟨ok,oa,on⟩,kj,kt,U⟩:=k;dsimp only[zat]at o J e4 L bk;have e7:q<T.heap.size:=o.lt;have f2:=zax o;have cr:=ci U (o.cell 12);go_upto_region 8 with fail;have z:zaa (T.setCell ⟨q,12,.none⟩ (.int .i64 (U+1))) q #[eb,sc,sm,kc,kf,ok,oa,on,jv,.bool false,kt,some sp,.int .i64 (U+1)] 122:=o.set 12 (.int .i64 (U+1));have oq:Only (fun i=>i=q) T (T.setCell ⟨q,12,.none⟩ (.int .i64 (U+1))):=Only.setCell (F:=fun i=>i=q) (Only.refl _ _) (.inl rfl) _;have b7:=oq.stk J (fun i hi e=>(B i hi).2 e)
 have bu:=bk.only oq (fun i hi e=>by
  rcases O i hi with y|y
  ·exact(V i y).2.1 e
  ·omega)
 have cd:=cc.only oq (fun e=>hp (e ▸ hq)) (fun e=>hb (e ▸ hq));have cj:=ch.trans oq (fun i _ hi=>.inl (by rw[hi];exact hq));have M:=N.only oq (by omega);have el:T.heap.size<=(T.setCell ⟨q,12,.none⟩ (.int .i64 (U+1))).heap.size:=Nat.le_of_eq (size_set _ _ _).symm;generalize T.setCell ⟨q,12,.none⟩ (.int .i64 (U+1))=w3 at *;clear o J bk cc ch N cq e5 e7 f2 cr oq;have e8:q<w3.heap.size:=z.lt;have e6:B1<w3.heap.size:=M.lt;have d0:=ce (.pointer (some ⟨q,0,.none⟩)) (M.cell 0);have cs:=ce (.pointer (some ⟨sp,0,.none⟩)) (z.cell 11);have cu:=ci (U+1) (z.cell 12);refine wret 8 ?_;repeat (go_big_quiet_step (fail))
 refine wqn fun w4 I=>?_;have b5:=z.below I;have b8:=b7.below I;have bv:=bu.below I;have cf:=cd.below I;have bg:=M.below I;have ck:=cj.trans (Only.of_below (F:=fun _=>False) I) (fun _ _ y=>y.elim);have em:=I.size;clear z b7 bu cd cj M e8 e6 d0 cs cu;have bb:=zz4 (pc':=U+1) b8 (by simp);replace bb:=hd' bb;go_upto_region 9 with(go_at_call 82;(with_reducible refine bb.out.mono ?_);rintro r w5 ⟨rfl,S,b9⟩);have e0:¬ foot sp sl q:=fun e=>(B q e).2 rfl;have bq:=b5.only S e0
 have bw:=bv.only S (fun i hi e=>by
  rcases O i hi with y|y
  ·exact(V i y).2.2 e
  ·have:=b2 i (.inr e);omega)
 have e3:=cf.only S (fun e=>hp (B p e).1) (fun e=>hb (B b e).1);have bh:=bg.only S (fun e=>by have:=b2 B1 (.inr e);omega);have ea:=ck.trans S (fun i _ hi=>.inl (B i hi).1);have ep:=S.size;have cz:zhx [(⟨ok,U, [oa,on,0,0,0,0,0,0]⟩:Fr)] 1 (U+1)= [⟨ok,U+1, [oa,on,0,0,0,0,0,0]⟩]:=rfl;rw[cz]at b9;clear b5 b8 bv cf ck bg bb;have es:B1<w5.heap.size:=bh.lt;have g0:=ce (.pointer (some ⟨q,0,.none⟩)) (bh.cell 0)
 have e1:=hd' (L.out w5 bq b9 bw (fun i hi=>by
  rcases O i hi with y|y
  ·have:=b0 i y;omega
  ·omega))
 have cy:=hd' (fun W r hT=>bi.out W r w5 e3 ea bw (fun i hi=>by
  rcases O i hi with y|y
  ·exact .inl y
  ·exact .inr (by omega)) hT)
 clear L bi;go_wp2_with (go_at_call 83;(with_reducible refine e1.out.mono ?_);rintro r w6 hT;obtain⟨v6,rfl,cx⟩:=cy.out _ _ hT);go_returns;exact cx
def ztb (w w':World) (e:Ending) (s:Sh) (cl:Int) (j:Jb):Prop:=∃ jv,e= .returned jv/\JbO (fun i=> w.heap.size<=i/\i < w'.heap.size) w' jv s cl j/\Below w.heap.size w w'
theorem zue{q sp:Nat}{s:Sh}{k:Kl}{i:Bool}{jv:Value}{w:World}(h:zaa w q (zat s k i jv (.pointer (some ⟨sp,0,.none⟩))) 122)(hk:1<=k.op.k/\k.op.k<=4):
  Calls Tryz.prog 57 #[some q] w fun e w'=>ztb w w' e s k.c (zgl s k.c k.first k.op.k k.op.a k.op.n):=by
 have I:=fun W=>ztd s k.c k.op.n k.first W;have J:=fun W=>zq9 s k.c k.op.a W;have L:=fun W=>z3p s k.c k.op.a k.op.n k.first W;have M:=fun W=>z2a s k.c k.op.a W;have S:(k.op.k=1/\zgl s k.c k.first k.op.k k.op.a k.op.n= .mal (zdh s k.c k.op.n k.first) none)\/(k.op.k=2/\zgl s k.c k.first k.op.k k.op.a k.op.n= .fre (zc2 s k.c k.op.a))\/(k.op.k=3/\zgl s k.c k.first k.op.k k.op.a k.op.n= .aga (zhh s k.c k.op.a k.op.n k.first))\/(k.op.k=4/\zgl s k.c k.first k.op.k k.op.a k.op.n= .hei (zix s k.c k.op.a)):=by
  have:k.op.k=1\/k.op.k=2\/k.op.k=3\/k.op.k=4:=by omega
  rcases this with e|e|e|e
  ·exact .inl ⟨e,by rw[e];rfl⟩
  ·exact .inr (.inl ⟨e,by rw[e];rfl⟩)
  ·exact .inr (.inr (.inl ⟨e,by rw[e];rfl⟩))
  exact .inr (.inr (.inr ⟨e,by rw[e];rfl⟩))
 obtain⟨j,b1⟩:∃ j,j=zgl s k.c k.first k.op.k k.op.a k.op.n:=⟨_,rfl⟩;rw[<-b1]at S ⊢;clear b1 hk;have b0:=fun (Y:World) (q:Nat) (h:zaa Y q (za7 s (zc2 s k.c k.op.a) (.pointer none)) 216)=>zws h;generalize zdh s k.c k.op.n k.first=b3 at *;generalize zc2 s k.c k.op.a=Z at *;generalize zhh s k.c k.op.a k.op.n k.first=b2 at *;generalize zix s k.c k.op.a=V at *;obtain⟨B,N,⟨ok,oa,on⟩,kj,kt,ks⟩:=k;dsimp only at S I J L M ⊢
 have o:=hd' (fun (X Y W:World) (q1 E:Nat) (D:Below w.heap.size w X) (hO:RsO (fun i=>X.heap.size<=i/\i<Y.heap.size) Y q1 s b3) (hb:Below X.heap.size X Y) (hE:zaa W E (zg2 s B (.pointer (some ⟨q1,0,.none⟩)) (.pointer none)) 176) (b4:Y.heap.size<=E) (hW:Below Y.heap.size Y W)=>
  (⟨_,rfl,⟨E,rfl,fun i hi=>hi.2,⟨Nat.le_trans (Nat.le_trans D.size hb.size) b4,hE.lt⟩,q1,0,fun i=>X.heap.size<=i/\i<Y.heap.size,fun i hi=>⟨⟨Nat.le_trans D.size hi.1,Nat.lt_of_lt_of_le hi.2 hW.size⟩,fun e=>by omega⟩,hE,hO.bel hW,fun x hx=>(by cases hx)⟩,zab (zab D hb) hW⟩:ztb w W (.returned (.iface 171 (.pointer (some ⟨E,0,.none⟩)))) s B (.mal b3 none)))
 have p:=hd' (fun (X Y:World) (q1:Nat) (D:Below w.heap.size w X) (h1:X.heap.size<=q1) (b:zaa Y q1 (za7 s Z (.pointer none)) 216) (hb:Below X.heap.size X Y)=>
  (⟨_,rfl,⟨q1,rfl,⟨Nat.le_trans D.size h1,b.lt⟩,(b0 Y q1 b).2.imp (fun q2 hh=>⟨hh.1,fun e=>by have:=hh.2 e;rw[this];exact⟨Nat.le_trans D.size h1,b.lt⟩⟩)⟩,zab D hb⟩:ztb w Y (.returned (.iface 180 (.agg #[some q1]))) s B (.fre Z)))
 have y:=hd' (fun (X Y:World) (q1:Nat) (D:Below w.heap.size w X) (b:RrO (fun i=>X.heap.size<=i/\i<Y.heap.size) Y q1 s b2) (hb:Below X.heap.size X Y)=>
  (⟨_,rfl,⟨q1,rfl,b.weak (fun i hi=>⟨Nat.le_trans D.size hi.1,hi.2⟩) (fun i hi=>hi.2)⟩,zab D hb⟩:ztb w Y (.returned (.iface 184 (.agg #[some q1]))) s B (.aga b2)))
 have z:=hd' (fun (X Y:World) (q1:Nat) (D:Below w.heap.size w X) (h1:X.heap.size<=q1) (b:zaa Y q1 (zan s V) 222) (hb:Below X.heap.size X Y)=>
  (⟨_,rfl,⟨q1,rfl,⟨Nat.le_trans D.size h1,b.lt⟩,b⟩,zab D hb⟩:ztb w Y (.returned (.iface 188 (.agg #[some q1]))) s B (.hei V)))
 clear b0;obtain⟨l,F,G⟩:=s;dsimp only[zat]at h;dsimp only at I J L M;replace I:=hd' I;replace J:=hd' J;replace L:=hd' L;replace M:=hd' M;have O:q<w.heap.size:=h.lt;have H:=h.cell;rcases S with⟨rfl,T⟩|⟨rfl,T⟩|⟨rfl,T⟩|⟨rfl,T⟩;case inl=>
  subst T;clear J L M p y z;go_in;go_upto_region 3 with fail;have hd:=h.drew;have bd:Below w.heap.size w w.drew:=br.drew;clear O H h;have O:q<w.drew.heap.size:=hd.lt;have hS:=hd' (fun (Y:World) (b:zaa Y q #[l,F,G,B,N,.int .i64 1,oa,on,jv,i,kt,some sp,ks] 122)=>(⟨b.cell 0,b.cell 1,b.cell 2,b.cell 3,b.cell 4,b.cell 7⟩:Y.cell? ⟨q,0,.none⟩=some (.int .i64 l)/\Y.cell? ⟨q,1,.none⟩=some (.int .i64 F)/\Y.cell? ⟨q,2,.none⟩=some (.int .i64 G)/\Y.cell? ⟨q,3,.none⟩=some (.int .i64 B)/\Y.cell? ⟨q,4,.none⟩=some (.int .i64 N)/\Y.cell? ⟨q,7,.none⟩=some (.int .i64 on)))
  go_region_held3 (fun Y=>Y.cell? ⟨q,0,.none⟩=some (.int .i64 l)/\Y.cell? ⟨q,1,.none⟩=some (.int .i64 F)/\Y.cell? ⟨q,2,.none⟩=some (.int .i64 G)/\Y.cell? ⟨q,3,.none⟩=some (.int .i64 B)/\Y.cell? ⟨q,4,.none⟩=some (.int .i64 N)/\Y.cell? ⟨q,7,.none⟩=some (.int .i64 on))
   (first|exact hS.out _ hd|exact hS.out _ h1|exact hS.out _ (h1.alloc _))
   (first|(go_at_call 88;(with_reducible refine(I.out _).mono ?_);rintro r R ⟨q1,rfl,C,m⟩;have h1:=hd.below m))
  go_wp2_with fail;go_returns;exact o.out w.drew R _ q1 R.heap.size bd C m (heap_alloc_new _ _) lr (br.alloc lr _)
 case inr.inl=>
  subst T;clear I L M o y z;go_in;go_upto_region 5 with fail;have hd:=h.drew;have bd:Below w.heap.size w w.drew:=br.drew;clear O H h;have O:q<w.drew.heap.size:=hd.lt;have hS:=hd' (fun (Y:World) (b:zaa Y q #[l,F,G,B,N,.int .i64 2,oa,on,jv,i,kt,some sp,ks] 122)=>(⟨b.cell 0,b.cell 1,b.cell 2,b.cell 3,b.cell 6⟩:Y.cell? ⟨q,0,.none⟩=some (.int .i64 l)/\Y.cell? ⟨q,1,.none⟩=some (.int .i64 F)/\Y.cell? ⟨q,2,.none⟩=some (.int .i64 G)/\Y.cell? ⟨q,3,.none⟩=some (.int .i64 B)/\Y.cell? ⟨q,6,.none⟩=some (.int .i64 oa)))
  go_region_held3 (fun Y=>Y.cell? ⟨q,0,.none⟩=some (.int .i64 l)/\Y.cell? ⟨q,1,.none⟩=some (.int .i64 F)/\Y.cell? ⟨q,2,.none⟩=some (.int .i64 G)/\Y.cell? ⟨q,3,.none⟩=some (.int .i64 B)/\Y.cell? ⟨q,6,.none⟩=some (.int .i64 oa))
   (first|exact hS.out _ hd|exact hS.out _ h1|exact hS.out _ (h1.alloc _))
   (first|(go_at_call 89;(with_reducible refine(J.out _).mono ?_);rintro r R ⟨q1,rfl,U,C,m⟩;have h1:=hd.below m))
  go_wp2_with fail;go_returns;exact p.out w.drew R q1 bd U C m
 case inr.inr.inl=>
  subst T;clear I J M o p z;go_in;go_upto_region 7 with fail;have hd:=h.drew;have bd:Below w.heap.size w w.drew:=br.drew;clear O H h;have O:q<w.drew.heap.size:=hd.lt;have hS:=hd' (fun (Y:World) (b:zaa Y q #[l,F,G,B,N,.int .i64 3,oa,on,jv,i,kt,some sp,ks] 122)=>(⟨b.cell 0,b.cell 1,b.cell 2,b.cell 3,b.cell 4,b.cell 6,b.cell 7⟩:Y.cell? ⟨q,0,.none⟩=some (.int .i64 l)/\Y.cell? ⟨q,1,.none⟩=some (.int .i64 F)/\Y.cell? ⟨q,2,.none⟩=some (.int .i64 G)/\Y.cell? ⟨q,3,.none⟩=some (.int .i64 B)/\Y.cell? ⟨q,4,.none⟩=some (.int .i64 N)/\Y.cell? ⟨q,6,.none⟩=some (.int .i64 oa)/\Y.cell? ⟨q,7,.none⟩=some (.int .i64 on)))
  go_region_held3 (fun Y=>Y.cell? ⟨q,0,.none⟩=some (.int .i64 l)/\Y.cell? ⟨q,1,.none⟩=some (.int .i64 F)/\Y.cell? ⟨q,2,.none⟩=some (.int .i64 G)/\Y.cell? ⟨q,3,.none⟩=some (.int .i64 B)/\Y.cell? ⟨q,4,.none⟩=some (.int .i64 N)/\Y.cell? ⟨q,6,.none⟩=some (.int .i64 oa)/\Y.cell? ⟨q,7,.none⟩=some (.int .i64 on))
   (first|exact hS.out _ hd|exact hS.out _ h1|exact hS.out _ (h1.alloc _))
   (first|(go_at_call 90;(with_reducible refine(L.out _).mono ?_);rintro r R ⟨q1,rfl,C,m⟩;have h1:=hd.below m))
  go_wp2_with fail;go_returns;exact y.out w.drew R q1 bd C m
 case inr.inr.inr=>
  subst T;clear I J L o p y;go_in;go_upto_region 8 with fail;have hd:=h.drew;have bd:Below w.heap.size w w.drew:=br.drew;clear O H h;have O:q<w.drew.heap.size:=hd.lt;have hS:=hd' (fun (Y:World) (b:zaa Y q #[l,F,G,B,N,.int .i64 4,oa,on,jv,i,kt,some sp,ks] 122)=>(⟨b.cell 0,b.cell 1,b.cell 2,b.cell 3,b.cell 6⟩:Y.cell? ⟨q,0,.none⟩=some (.int .i64 l)/\Y.cell? ⟨q,1,.none⟩=some (.int .i64 F)/\Y.cell? ⟨q,2,.none⟩=some (.int .i64 G)/\Y.cell? ⟨q,3,.none⟩=some (.int .i64 B)/\Y.cell? ⟨q,6,.none⟩=some (.int .i64 oa)))
  go_region_held3 (fun Y=>Y.cell? ⟨q,0,.none⟩=some (.int .i64 l)/\Y.cell? ⟨q,1,.none⟩=some (.int .i64 F)/\Y.cell? ⟨q,2,.none⟩=some (.int .i64 G)/\Y.cell? ⟨q,3,.none⟩=some (.int .i64 B)/\Y.cell? ⟨q,6,.none⟩=some (.int .i64 oa))
   (first|exact hS.out _ hd|exact hS.out _ h1|exact hS.out _ (h1.alloc _))
   (first|(go_at_call 91;(with_reducible refine(M.out _).mono ?_);rintro r R ⟨q1,rfl,U,C,m⟩;have h1:=hd.below m))
  go_wp2_with fail;go_returns;exact z.out w.drew R q1 bd U C m
end Go.Proofs.YtedcnffebdpmmaaGreat
