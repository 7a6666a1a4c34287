/- Texts bound together: CliU CliV CliW CliX. -/
import Derived.Test.YtkbddndcegpllaaGreatBt28

set_option linter.all false
set_option maxHeartbeats 4000000
set_option maxRecDepth 100000
namespace Go.Proofs.YtkbddndcegpllaaGreat

attribute [local go_sem] za7 zan zat zg2

open Go.RowKit

attribute [local go_sem ↓] Go.wp_at_zero Go.wp_at_succ

theorem z7m{s:Sh}{cl:Int}{r:Rs}{c:Option Cm}(h:jbIs s cl (.mal r c))(hd:(Jb.mal r c).done=false):r.done=false\/(r.done=true/\c=none/\∃ b,r.got=some b):=by
 have f:(r.done&&(!r.got.isSome||zck c))=false:=hd;cases hrd:r.done
 ·exact .inl rfl
 rw[hrd,Bool.true_and,Bool.or_eq_false_iff]at f;refine .inr ⟨rfl,?_,?_⟩
 ·rcases hc:c with _|x
  ·rfl
  have:=h.2 x hc;have i:=f.2;rw[hc]at i;have i:x.done=false:=i;rw[this.2.1]at i;cases i
 rcases hg:r.got with _|b
 ·have j:=f.1;rw[hg]at j;cases j
 exact⟨b,rfl⟩
structure zhl (G:Nat->Prop) (p b:Nat) (w w':World) (jv:Value) (s:Sh) (cl:Int) (j:Jb) (m:Mem):Prop where
 wds:zaq w' p b (j.step s cl m).2
 only:Only (fun k=> G k\/k=p\/k=b) w w'
 job:JbO (grow G w w') w' jv s cl (j.step s cl m).1
theorem yhq{q p B1 B2:Nat}{T:TypeId}{x r0:Value}{f:FuncId}{w:World}{Q:Ending->World->Prop}(m:w.cell? ⟨B1,0,.none⟩=some (.pointer (some ⟨q,0,.none⟩)))(n:w.cell? ⟨B2,0,.none⟩=some (.pointer (some ⟨p,0,.none⟩)))(s:B1<w.heap.size)(t:B2<w.heap.size)(y:q<w.heap.size)
  (o:w.cell? ⟨q,8,.none⟩=some (.iface T x)) (m1:∀ W:World,(method (Tryz.prog.types.size+Made.depth) T x "Step").run Tryz.prog W= .ok (f,r0) W) (f1:∀ W:World,(callFunc f #[r0,some p]).run Tryz.prog W= .ok (.enter f #[r0,some p]) W)
  (b:∀ Y,Below w.heap.size w Y->Calls Tryz.prog f #[r0,some p] Y fun e w'=>e= .returned (.tuple #[])/\Q e w'):
  Calls Tryz.prog 144 #[some B1,some B2] w fun e w'=>e= .returned (.tuple #[])/\Q e w':=by
 replace b:=hd' b;simp[go_sem]at m1;go_in;go_wp2_with fail;refine zad 5 (by kernel_rfl) (by kernel_rfl) ?_;dsimp only[List.take,List.drop];repeat (go_big_quiet_step (fail))
 refine wpQuiet_nil ?_;rintro _ ⟨j,rfl⟩;have i:=j.below;generalize j.w=Z at *;change wpList _ _ _ _ _ Z;go_wp2_with ((with_reducible refine(b.out _ i).mono ?_);rintro r z ⟨rfl,l⟩);go_returns;exact⟨rfl,l⟩
theorem zh7{G:Nat->Prop}{w Y Z:World}(hb:Below w.heap.size w Y)(hs:Y.heap.size<=Z.heap.size):∀ k,grow G Y Z k->grow G w Z k:=fun k b=>b.imp id (fun h=>⟨Nat.le_trans hb.size h.1,h.2⟩)
theorem zhl.mk'{G:Nat->Prop}{p b:Nat}{w Y Z:World}{jv:Value}{s:Sh}{cl:Int}{j:Jb}{m:Mem}(hb:Below w.heap.size w Y)(f:zaq Z p b (j.step s cl m).2)(i:Only (fun k=>G k\/k=p\/k=b) Y Z)(l:JbO (grow G w Z) Z jv s cl (j.step s cl m).1):zhl G p b w Z jv s cl j m:=
 ⟨f,(Only.of_below (F:=fun k=>G k\/k=p\/k=b) hb).trans i (fun _ _ e=>e),l⟩
theorem z6s{G:Nat->Prop}{q p b B1 B2:Nat}{s:Sh}{cl:Int}{j:Jb}{m:Mem}{w:World}{jv:Value}(E:w.cell? ⟨B1,0,.none⟩=some (.pointer (some ⟨q,0,.none⟩)))(F:w.cell? ⟨B2,0,.none⟩=some (.pointer (some ⟨p,0,.none⟩)))(M:B1<w.heap.size)(N:B2<w.heap.size)(O:q<w.heap.size)
  (H:w.cell? ⟨q,8,.none⟩=some jv) (o:JbO G w jv s cl j) (B:∀ k,G k->k<w.heap.size) (L:zaq w p b m) (J:¬ G p) (hb:¬ G b) (I:Fits s m) (z:jbIs s cl j) (hd:j.done=false) (hs:m.st<1000000000):
  Calls Tryz.prog 144 #[some B1,some B2] w fun e w'=>e= .returned (.tuple #[])/\zhl G p b w w' jv s cl j m:=by
 cases j with
 |mal r c=>
  obtain⟨q1,rfl,o⟩:=o;refine yhq E F M N O H (fun _=>by kernel_rfl) (fun _=>by kernel_rfl) (Q:=fun _ w'=>zhl G p b w w' _ s cl (.mal r c) m) fun Y i=>(zt8 (o.below i) (L.below i) J hb I ⟨fun x y=>(z.1.sk x y).1.ok,fun x y=>(z.1.rn x y).ok⟩ hs (z7m z hd)).mono fun e w' hS=>?_;obtain⟨n,r',c',Z,C⟩:=hS;refine⟨n.ret,.mk' i n.wds n.only ?_⟩;rw[Z];obtain⟨a1,R,T,x2,U,D,V,X,S⟩:=C;refine⟨q1,rfl,fun k l=>?_,zh7 i n.only.size _ R,T,x2,U,fun k l=>⟨zh7 i n.only.size _ (D k l).1,(D k l).2⟩,V,X,fun x y=>⟨⟨zh7 i n.only.size _ (S x y).1.1,(S x y).1.2⟩,(S x y).2⟩⟩;rcases l with l|l
  ·exact Nat.lt_of_lt_of_le (B k l) (Nat.le_trans i.size n.only.size)
  exact l.2
 |fre f=>obtain⟨q1,rfl,o⟩:=o;refine yhq E F M N O H (fun _=>by kernel_rfl) (fun _=>by kernel_rfl) (Q:=fun _ w'=>zhl G p b w w' _ s cl (.fre f) m) fun Y i=>(zw0 (o.below i) (L.below i) J hb I z.ok hs).mono fun e w' hS=>?_;obtain⟨n,C⟩:=hS;refine⟨n.ret,.mk' i n.wds n.only ?_⟩;obtain⟨a1,T,R,D⟩:=C;exact⟨q1,rfl,zh7 i n.only.size _ a1,T,R,fun h=>zh7 i n.only.size _ (D h)⟩
 |aga t=>
  obtain⟨q1,rfl,o⟩:=o;refine yhq E F M N O H (fun _=>by kernel_rfl) (fun _=>by kernel_rfl) (Q:=fun _ w'=>zhl G p b w w' _ s cl (.aga t) m) fun Y i=>(zza (o.below i) (L.below i) J hb I z.ok hs).mono fun e w' hS=>?_;obtain⟨n,C⟩:=hS;refine⟨n.ret,.mk' i n.wds n.only ⟨q1,rfl,C.weak (zh7 i n.only.size) fun k l=>?_⟩⟩;rcases l with l|l
  ·exact Nat.lt_of_lt_of_le (B k l) (Nat.le_trans i.size n.only.size)
  exact l.2
 |hei a=>
  obtain⟨q1,rfl,o⟩:=o;refine yhq E F M N O H (fun _=>by kernel_rfl) (fun _=>by kernel_rfl) (Q:=fun _ w'=>zhl G p b w w' _ s cl (.hei a) m) fun Y i=>(zyd q1 p b s a m Y (o.below i).2 (L.below i) (fun e=>J (e ▸ o.1)) (fun e=>hb (e ▸ o.1)) I z.1 hs).mono fun e w' hS=>?_;refine⟨hS.ret,.mk' i hS.wds (hS.only.weak fun k l=>?_) ⟨q1,rfl,.inl o.1,hS.row⟩⟩;rcases l with rfl|l|l
  ·exact .inl o.1
  ·exact .inr (.inl l)
  exact .inr (.inr l)
def zdv (k:Kl):List Fr:=match k.job with
 | some _=> [⟨k.op.k,k.steps, [k.op.a,k.op.n,0,0,0,0,0,0]⟩]
 | none=> []
structure KlO (F:Nat->Prop) (w:World) (q:Nat) (s:Sh) (k:Kl):Prop where
 lt:∀ b,F b->b < w.heap.size
 own:F q
 at':∃ sp sl jv G,zaa w q (zat s k (!k.job.isSome) jv (.pointer (some ⟨sp,0,.none⟩))) 178/\SK 0 w sp sl 1 (zdv k)/\(∀ b,foot sp sl b->F b/\b≠q)/\(∀ b,G b->F b/\b≠q/\¬ foot sp sl b)/\(k.job=none->jv= .nilIface)/\(∀ j,k.job=some j->JbO G w jv s k.c j)
theorem KlO.only{F G:Nat->Prop}{w w':World}{q:Nat}{s:Sh}{k:Kl}(h:KlO F w q s k)(f:Only G w w')(hd:∀ b,F b->¬ G b):KlO F w' q s k:=by
 obtain⟨r,m,sp,sl,jv,H,a1,n,i,l,o,p⟩:=h;exact⟨fun b hb=>Nat.lt_of_lt_of_le (r b hb) f.size,m,sp,sl,jv,H,a1.only f (hd q m),f.stk n (fun b hb=>hd b (i b hb).1),i,l,o,fun j t=>(p j t).only f (fun b hb=>hd b (l b hb).1)⟩
theorem KlO.below{F:Nat->Prop}{w w':World}{q:Nat}{s:Sh}{k:Kl}(h:KlO F w q s k)(hb:Below w.heap.size w w'):KlO F w' q s k:=h.only (Only.of_below (F:=fun _=>False) hb) (fun _ _ e=>e)
theorem KlO.weak{F G:Nat->Prop}{w:World}{q:Nat}{s:Sh}{k:Kl}(h:KlO F w q s k)(f:∀ b,F b->G b)(p:∀ b,G b->b<w.heap.size):KlO G w q s k:=by
 obtain⟨r,o,sp,sl,jv,H,a1,l,i,j,m,n⟩:=h;exact⟨p,f q o,sp,sl,jv,H,a1,l,fun b hb=>⟨f b (i b hb).1,(i b hb).2⟩,fun b hb=>⟨f b (j b hb).1,(j b hb).2⟩,m,n⟩
theorem ztx{q sp:Nat}{s:Sh}{k:Kl}{jv sl:Value}{most:Int}{fs:List Fr}{w:World}(i:Bool)(h:zaa w q (zat s k i jv (.pointer (some ⟨sp,0,.none⟩))) 178)(hs:SK 0 w sp sl most fs)(j:i=false->fs.length=1):
  Calls Tryz.prog 83 #[some q] w fun e w'=>e= .returned (.bool i)/\w'=w:=by
 have n:q<w.heap.size:=h.lt;have m:=h.cell;have b:=zft hs;cases i
 ·rw[j rfl]at b;replace b:=hd' b;clear h hs j;go_in;go_wp2_with (go_at_call 127;(with_reducible refine b.out.mono ?_);rintro r o ⟨rfl,l⟩;obtain rfl:=l.symm);go_returns;exact⟨rfl,rfl⟩
 clear h hs j b;go_in;go_wp2_with fail;go_returns;exact⟨rfl,rfl⟩
theorem KlO.rests{F:Nat->Prop}{w:World}{q:Nat}{s:Sh}{k:Kl}(h:KlO F w q s k):Calls Tryz.prog 83 #[some q] w fun e w'=>e= .returned (.bool k.rests)/\w'=w:=by
 obtain⟨o,p,sp,sl,jv,H,a1,b,i,l,m,n⟩:=h;refine ztx (!k.job.isSome) a1 b (fun e=>?_);unfold zdv;rcases hj:k.job with _|j
 ·rw[hj]at e;cases e
 rfl
structure ztp (F:Nat->Prop) (q p b:Nat) (w w':World) (r:Ending) (s:Sh) (k:Kl) (m:Mem):Prop where
 ret:∃ v,r= .returned (.tuple #[v,.int .i64 (k.step s m).2.2.2])/\w'.ownsRow w.heap.size 66 8 v (k.step s m).2.2.1.length ((k.step s m).2.2.1.flatMap fun e=> e.cells.toList)
 wds:zaq w' p b (k.step s m).2.1
 kl:KlO (grow F w w') w' q s (k.step s m).1
 only:Only (fun i=> F i\/i=p\/i=b) w w'
theorem zuq{F:Nat->Prop}{q p b:Nat}{s:Sh}{k:Kl}{m:Mem}{w:World}(h:KlO F w q s k)(E:zaq w p b m)(B:k.job=none):
  Calls Tryz.prog 110 #[some q,some p] w fun r w'=>ztp F q p b w w' r s k m:=by
 have o:k.step s m=(k,m, [],2):=by unfold Kl.step;rw[B]
 have l:=((Below.refl w.heap.size w).alloc lr (.cells #[some q] 61)).alloc (by simp) (.cells #[some p] 113);have y:k.rests=true:=by unfold Kl.rests;rw[B];rfl
 have i:=(h.below l).rests;rw[y]at i;replace i:=hd' i;have n:Hid (∀ W,Below w.heap.size w W->ztp F q p b w W (.returned (.tuple #[.slice none 0 0,.int .i64 2])) s k m):=hd' fun W hb=>by
  refine⟨⟨_,by rw[o],?_⟩,?_,?_,Only.of_below hb⟩
  ·rw[o];exact zel _ _
  ·rw[o];exact E.below hb
  rw[o];exact(h.below hb).weak (fun b hb=>.inl hb) (zec h.lt hb.size)
 clear h E o B y;go_in;go_upto_region 1 with fail;have z:zaa ((w.alloc (.cells #[some q] 61)).alloc (.cells #[some p] 113)) w.heap.size #[some q] 61:=zaa.alloc (heap_alloc_new _ _) _;generalize (w.alloc (.cells #[some q] 61)).alloc (.cells #[some p] 113)=X at *;obtain⟨H,I,j⟩:=hidv w.heap.size;rw[<-j]at z ⊢;clear j;have J:H<X.heap.size:=z.lt;have G:=z.cell;have D:∀ W:World,(binOp .eql 61 (.pointer (some ⟨q,0,.none⟩)) (.pointer none)).run Tryz.prog W= .ok (.bool false) W:=fun W=>by kernel_rfl
 go_wp2_with (go_at_call 83;(with_reducible refine i.out.mono ?_);rintro r L ⟨rfl,C⟩;obtain rfl:=C.symm);go_returns;exact n.out _ l
theorem ybb{w:World}{B C:Nat}{E:TypeId}{size:Nat}{v:Value}{n:Nat}{xs:List Value}(h:w.ownsRow B E size v n xs)(hc:C<=B):w.ownsRow C E size v n xs:=by
 refine⟨h.1,?_⟩;rcases h.2 with i|⟨g,cap,b,rfl,f,r⟩
 ·exact .inl i
 exact .inr ⟨g,cap,b,rfl,Nat.le_trans hc f,r⟩
theorem size_alloc(w:World)(o:Obj):(w.alloc o).heap.size=w.heap.size+1:=by simp
theorem zzj{F G L:Nat->Prop}{q p b sp:Nat}{s:Sh}{k:Kl}{m:Mem}{j:Jb}{jv sl:Value}{w Y Z:World}{r:Ending}(N:∀ i,F i->i<w.heap.size)(S:F q)(X:¬ F p)(hb:¬ F b)(U:k.job=some j)(t:∀ i,foot sp sl i->F i/\i≠q)(O:∀ i,G i->F i/\i≠q/\¬ foot sp sl i)
  (C:∀ i,L i->G i\/(w.heap.size<=i/\i<Y.heap.size)) (T:zaq Y p b (j.step s k.c m).2) (E:Only (fun i=>F i\/i=p\/i=b) w Y) (R:JbO L Y jv s k.c (j.step s k.c m).1)
  (z:zbp q sp s {k with told:=k.told||(j.step s k.c m).1.gave,steps:=k.steps+1} (j.step s k.c m).1.done jv sl 1 [⟨k.op.k,k.steps+1, [k.op.a,k.op.n,0,0,0,0,0,0]⟩] (k.tells (j.step s k.c m).1) Y Z r):
  ∃ v,r= .returned v/\ztp F q p b w Z (.returned (.tuple #[v,.int .i64 0])) s k m:=by
 have M:k.step s m=(k.after (j.step s k.c m).1,(j.step s k.c m).2,k.tells (j.step s k.c m).1,0):=by unfold Kl.step;rw[U]
 obtain⟨v,hv,H⟩:=z.ret;have I:=E.size;have J:=z.only.size;have V:=N q S;have y:∀ i,(i=q\/foot sp sl i)->F i:=fun i hi=>by rcases hi with rfl|hi;exact S;exact(t i hi).1
 have o:∀ i,L i->¬ (i=q\/foot sp sl i):=fun i hi e=>by
  rcases C i hi with h|h
  ·rcases e with e|e
   ·exact(O i h).2.1 e
   exact(O i h).2.2 e
  have:=N i (y i e);omega
 refine⟨v,hv,⟨⟨_,by rw[M],?_⟩,?_,?_,?_⟩⟩
 ·rw[M];exact ybb H I
 ·rw[M];exact T.only z.only (fun e=>X (y p e)) (fun e=>hb (y b e))
 ·rw[M];generalize (j.step s k.c m).1=j' at *;have D:=R.only z.only o;have f:=z.row;have l:=z.stk;refine⟨zec N (Nat.le_trans I J),.inl S,?_⟩;cases hd:j'.done
  ·rw[hd]at f l;refine⟨sp,sl,jv,L,?_,?_,fun i hi=>⟨.inl (t i hi).1,(t i hi).2⟩,fun i hi=>⟨?_,fun e=>o i hi (.inl e),fun e=>o i hi (.inr e)⟩,fun e=>?_,fun x B=>?_⟩
   ·have e:(!(k.after j').job.isSome)=false:=by simp[Kl.after,hd]
    rw[e];exact f
   ·have e:zdv (k.after j')= [⟨k.op.k,k.steps+1, [k.op.a,k.op.n,0,0,0,0,0,0]⟩]:=by unfold zdv Kl.after;simp[hd]
    rw[e];exact l
   ·rcases C i hi with h|h
    ·exact .inl (O i h).1
    exact .inr ⟨h.1,Nat.lt_of_lt_of_le h.2 J⟩
   ·simp[Kl.after,hd]at e
   have e:(k.after j').job=some j':=by simp[Kl.after,hd]
   rw[e]at B;injection B with B;subst B;exact D
  rw[hd]at f l;refine⟨sp,.slice none 0 0,.nilIface,fun _=>False,?_,?_,fun i hi=>?_,fun i hi=>hi.elim,fun _=>rfl,fun x B=>?_⟩
  ·have e:(!(k.after j').job.isSome)=true:=by simp[Kl.after,hd]
   rw[e];exact f
  ·have e:zdv (k.after j')= []:=by unfold zdv Kl.after;simp[hd]
   rw[e];exact l
  ·rcases hi with rfl|hi
   ·exact⟨.inl (t _ (.inl rfl)).1,(t _ (.inl rfl)).2⟩
   cases hi
  simp[Kl.after,hd]at B
 exact E.trans z.only (fun i _ hi=>.inl (y i hi))
theorem zty{F:Nat->Prop}{q p b:Nat}{s:Sh}{k:Kl}{m:Mem}{j:Jb}{w:World}(h:KlO F w q s k)(hw:zaq w p b m)(hp:¬ F p)(hb:¬ F b)(hf:Fits s m)(c4:m.fit)(hj:k.job=some j)(c7:jbIs s k.c j)(c6:j.done=false)(hc:0<=k.c/\k.c<s.c)(ep:0<=k.steps/\k.steps<1000000)(hs:m.st<1000000000):
  Calls Tryz.prog 110 #[some q,some p] w fun r w'=>ztp F q p b w w' r s k m:=by
 have c9:k.rests=false:=by unfold Kl.rests;rw[hj];rfl
 obtain⟨hF,hq,sp,sl,jv,G,b3,b5,B,U,_,bi⟩:=id h;have hJ:=bi j hj;clear bi;have hi:(!k.job.isSome)=false:=by rw[hj];rfl
 rw[hi]at b3;have c5:zdv k= [⟨k.op.k,k.steps, [k.op.a,k.op.n,0,0,0,0,0,0]⟩]:=by unfold zdv;rw[hj]
 rw[c5]at b5;have e3:IntKind.i64.wrap (k.steps+1)=k.steps+1:=by rw[IntKind.wrap_i64];omega
 have O:=((Below.refl w.heap.size w).alloc lr (.cells #[some q] 61)).alloc (by simp) (.cells #[some p] 113);have hH:zaa ((w.alloc (.cells #[some q] 61)).alloc (.cells #[some p] 113)) w.heap.size #[some q] 61:=zaa.alloc (heap_alloc_new _ _) _;have hK:zaa ((w.alloc (.cells #[some q] 61)).alloc (.cells #[some p] 113)) (w.heap.size+1) #[some p] 113:=by have h:=heap_alloc_new (w.alloc (.cells #[some q] 61)) (.cells #[some p] 113);rw[size_alloc]at h;exact h
 have b2:=(h.below O).rests;rw[c9]at b2;replace b2:=hd' b2;clear h c9 hi c5;have bk:((w.alloc (.cells #[some q] 61)).alloc (.cells #[some p] 113)).heap.size=w.heap.size+2:=by rw[size_alloc,size_alloc]
 have C:=b3.below O;have b9:=b5.below O;have bw:=hJ.below O;have cf:=hw.below O;go_in;go_upto_region 1 with fail;generalize (w.alloc (.cells #[some q] 61)).alloc (.cells #[some p] 113)=X at *;obtain⟨B2,eg,bc⟩:∃ H,Hid (H=w.heap.size+1)/\H=w.heap.size+1:=⟨_,hd' rfl,rfl⟩;obtain⟨B1,ef,bb⟩:=hidv w.heap.size;simp only[<-bc]at hK ⊢;rw[<-bb]at hH ⊢;have eb:w.heap.size<=B1:=by omega
 have ec:w.heap.size<=B2:=by omega
 clear bb bc;have l1:B1<X.heap.size:=hH.lt;have c0:=ce (.pointer (some ⟨q,0,.none⟩)) (hH.cell 0);have ed:∀ W:World,(binOp .eql 61 (.pointer (some ⟨q,0,.none⟩)) (.pointer none)).run Tryz.prog W= .ok (.bool false) W:=fun W=>by kernel_rfl
 have ei:∀ (fn:Fn) (first cap:Array Value) (w:World),(Instr.makeFunc fn first cap).run Tryz.prog w= .ok (.func fn first cap) w:=fun _ _ _ _=>rfl;have e8:=hF q hq;have V:∀ i,G i->i<w.heap.size:=fun i hi=>hF i (U i hi).1;have ej:=hw.ltp;have eh:=hw.ltb;have l:=(Below.refl X.heap.size X).alloc lr (.cells #[.bool false] 4);have b0:=z6s (w:=X.alloc (.cells #[.bool false] 4)) (q:=q) (p:=p) (b:=b) (G:=G) (s:=s) (cl:=k.c) (j:=j) (m:=m) (jv:=jv) (B1:=B1) (B2:=B2) ((hH.below l).cell 0) ((hK.below l).cell 0) (hH.below l).lt (hK.below l).lt (C.below l).lt ((C.below l).cell 8) (bw.below l) (fun i hi=>by have:=V i hi;rw[size_alloc];omega) (cf.below l) (fun e=>hp (U p e).1) (fun e=>hb (U b e).1) hf c7 c6 hs
 have hg:=zyf B1 B2 X (Q:=fun Y=>zhl G p b (X.alloc (.cells #[.bool false] 4)) Y jv s k.c j m) (b0.mono fun e w' y=>⟨y.1,y.2,by
  have hn:zaa (X.alloc (.cells #[.bool false] 4)) X.heap.size #[.bool false] 4:=heap_alloc_new _ _
  refine hn.only y.2.only (fun e=>?_)
  rcases e with e|e|e
  ·have:=V _ e;omega
  ·omega
  ·omega⟩)
 replace hg:=hd' hg;clear b0;go_upto_region 7 with(first|(go_at_call 83;(with_reducible refine b2.out.mono ?_);rintro r w1 ⟨rfl,e1⟩;obtain rfl:=e1.symm)|(go_at_call 143;(with_reducible refine hg.out.mono ?_);rintro r S ⟨rfl,Y,hQ,bm⟩;have M:zaa S B1 #[some q] 61:=(by rw[bm];exact((hH.below l).only hQ.only (fun e=>by rcases e with e|e|e;have:=V _ e;omega;omega;omega)).other (by omega) _ _);have cp:=ce (.pointer (some ⟨q,0,.none⟩)) (M.cell 0);have e4:=M.lt));have D:S=Y.setCell ⟨w.heap.size+2,0,.none⟩ (.bool true):=by rw[bm,bk]
 rw[<-D];have bz:X.heap.size=w.heap.size+2:=bk;have bx:(X.alloc (.cells #[.bool false] 4)).heap.size=w.heap.size+3:=by rw[size_alloc,bz]
 have ca:S.heap.size=Y.heap.size:=by rw[D];exact size_set _ _ _
 have ck:Only (fun i=>F i\/i=p\/i=b) w (X.alloc (.cells #[.bool false] 4)):=Only.of_below (zab O l);have cm:Only (fun i=>F i\/i=p\/i=b) w Y:=ck.trans hQ.only (fun i _ hi=>hi.imp (fun e=>(U i e).1) id);have cg:Only (fun i=>F i\/i=p\/i=b) w S:=by rw[D];exact Only.setCell cm (.inr (by show w.heap.size<=w.heap.size+2;omega)) _
 have bn:∀ i,(i=q\/foot sp sl i)->¬ (G i\/i=p\/i=b):=fun i hi e=>by
  have bq:F i:=by rcases hi with rfl|hi;exact hq;exact(B i hi).1
  rcases e with e|e|e
  ·rcases hi with rfl|hi
   ·exact(U _ e).2.1 rfl
   exact(U i e).2.2 hi
  ·exact hp (e ▸ bq)
  exact hb (e ▸ bq)
 have b1:∀ i,(i=q\/foot sp sl i)->i<w.heap.size:=fun i hi=>by rcases hi with rfl|hi;exact e8;exact hF i (B i hi).1
 have E:Only (fun i=>i=w.heap.size+2) Y S:=by rw[D];exact Only.setCell (F:=fun i=>i=w.heap.size+2) (Only.refl _ _) (.inl rfl) _
 have o:=((C.below l).only hQ.only (bn q (.inl rfl))).only E (by omega);have I:=E.stk (hQ.only.stk (b9.below l) (fun i hi=>bn i (.inr hi))) (fun i hi e=>by have:=b1 i (.inr hi);omega)
 have bj:=hQ.job.only E (fun i hi e=>by
  rcases hi with hi|hi
  ·have:=V i hi;omega
  ·omega)
 have cb:=hQ.wds.only E (by omega) (by omega);have N:∀ i,grow G (X.alloc (.cells #[.bool false] 4)) Y i->G i\/(w.heap.size<=i/\i<S.heap.size):=fun i hi=>by
  rcases hi with hi|hi
  ·exact .inl hi
  exact .inr (by omega)
 generalize cu:grow G (X.alloc (.cells #[.bool false] 4)) Y=G2 at *;clear bm D hQ hg bk bz bx ck cm E l b2 C b9 bw cf hJ b3 b5 hw cu ca bn;have es:∀ Z W:World,Only (fun i=>i=q\/foot sp sl i) Z W->Only (fun i=>F i\/i=p\/i=b) Z W:=fun Z W y=>y.weak (fun i hi=>.inl (by rcases hi with rfl|hi;exact hq;exact(B i hi).1));have bh:=hd' (fun (W:World) (r:Ending) (Y2:World) (h1:zaq Y2 p b (j.step s k.c m).2) (h2:Only (fun i=>F i\/i=p\/i=b) w Y2) (h3:JbO G2 Y2 jv s k.c (j.step s k.c m).1) (h4:∀ i,G2 i->G i\/(w.heap.size<=i/\i<Y2.heap.size)) (hT:zbp q sp s {k with told:=k.told||(j.step s k.c m).1.gave,steps:=k.steps+1} (j.step s k.c m).1.done jv sl 1 [⟨k.op.k,k.steps+1, [k.op.a,k.op.n,0,0,0,0,0,0]⟩] (k.tells (j.step s k.c m).1) Y2 W r)=>zzj hF hq hp hb hj B U h4 h1 h2 h3 hT);have c8:=(zqw c7 hc c6 hf (by exact c4)).2.1
 have J:=hd' (fun (Y2:World) (h1:zaa Y2 q (zat s {k with steps:=k.steps+1} false jv (.pointer (some ⟨sp,0,.none⟩))) 178) (h2:SK 0 Y2 sp sl 1 [⟨k.op.k,k.steps+1, [k.op.a,k.op.n,0,0,0,0,0,0]⟩]) (h3:JbO G2 Y2 jv s k.c (j.step s k.c m).1) (h4:∀ i,G2 i->i<Y2.heap.size)=>z6y (k:= {k with steps:=k.steps+1}) h1 h2 (fun e=>(B q e).2 rfl) h3 (fun i hi=>⟨fun e=>by
   rcases N i hi with y|y
   ·exact(U i y).2.1 e
   ·have:=b1 i (.inl e);omega,fun e=>by
   rcases N i hi with y|y
   ·exact(U i y).2.2 e
   ·have:=b1 i (.inr e);omega⟩) h4 c8 hf.may hc)
 generalize (j.step s k.c m).1=j2 at *;generalize (j.step s k.c m).2=m2 at *;obtain⟨ea,sc,sm⟩:=s;obtain⟨kc,kf,⟨ok,oa,on⟩,kj,kt,T⟩:=k;dsimp only[zat]at o I e3 J bj;have e6:q<S.heap.size:=o.lt;have f2:=zax o;have cq:=ci T (o.cell 12);go_upto_region 8 with fail;have z:zaa (S.setCell ⟨q,12,.none⟩ (.int .i64 (T+1))) q #[ea,sc,sm,kc,kf,ok,oa,on,jv,.bool false,kt,some sp,.int .i64 (T+1)] 178:=o.set 12 (.int .i64 (T+1));have oq:Only (fun i=>i=q) S (S.setCell ⟨q,12,.none⟩ (.int .i64 (T+1))):=Only.setCell (F:=fun i=>i=q) (Only.refl _ _) (.inl rfl) _;have b6:=oq.stk I (fun i hi e=>(B i hi).2 e)
 have bs:=bj.only oq (fun i hi e=>by
  rcases N i hi with y|y
  ·exact(U i y).2.1 e
  ·omega)
 have cc:=cb.only oq (fun e=>hp (e ▸ hq)) (fun e=>hb (e ▸ hq));have ch:=cg.trans oq (fun i _ hi=>.inl (by rw[hi];exact hq));have L:=M.only oq (by omega);have ek:S.heap.size<=(S.setCell ⟨q,12,.none⟩ (.int .i64 (T+1))).heap.size:=Nat.le_of_eq (size_set _ _ _).symm;generalize S.setCell ⟨q,12,.none⟩ (.int .i64 (T+1))=w3 at *;clear o I bj cb cg M cp e4 e6 f2 cq oq;have e7:q<w3.heap.size:=z.lt;have e5:B1<w3.heap.size:=L.lt;have d0:=ce (.pointer (some ⟨q,0,.none⟩)) (L.cell 0);have cr:=ce (.pointer (some ⟨sp,0,.none⟩)) (z.cell 11);have cs:=ci (T+1) (z.cell 12);refine zad 8 (by kernel_rfl) (by kernel_rfl) ?_;dsimp only[List.take,List.drop];repeat (go_big_quiet_step (fail))
 refine wpQuiet_nil ?_;rintro _ ⟨e',rfl⟩;have b4:=z.below e'.below;have b7:=b6.below e'.below;have bu:=bs.below e'.below;have cd:=cc.below e'.below;have bf:=L.below e'.below;have cj:=ch.trans (Only.of_below (F:=fun _=>False) e'.below) (fun _ _ y=>y.elim);have el:=e'.below.size;generalize e'.w=w4 at *;change wpList _ _ _ _ _ w4;clear z b6 bs cc ch L e7 e5 d0 cr cs;have ba:=zz4 (pc':=T+1) b7 (by simp);replace ba:=hd' ba;go_upto_region 9 with(go_at_call 145;(with_reducible refine ba.out.mono ?_);rintro r w5 ⟨rfl,R,b8⟩);have cz:¬ foot sp sl q:=fun e=>(B q e).2 rfl;have bp:=b4.only R cz
 have bv:=bu.only R (fun i hi e=>by
  rcases N i hi with y|y
  ·exact(U i y).2.2 e
  ·have:=b1 i (.inr e);omega)
 have e2:=cd.only R (fun e=>hp (B p e).1) (fun e=>hb (B b e).1);have bg:=bf.only R (fun e=>by have:=b1 B1 (.inr e);omega);have e9:=cj.trans R (fun i _ hi=>.inl (B i hi).1);have em:=R.size;have cy:zhx [(⟨ok,T, [oa,on,0,0,0,0,0,0]⟩:Fr)] 1 (T+1)= [⟨ok,T+1, [oa,on,0,0,0,0,0,0]⟩]:=rfl;rw[cy]at b8;clear b4 b7 bu cd cj bf ba;have er:B1<w5.heap.size:=bg.lt;have g0:=ce (.pointer (some ⟨q,0,.none⟩)) (bg.cell 0)
 have e0:=hd' (J.out w5 bp b8 bv (fun i hi=>by
  rcases N i hi with y|y
  ·have:=V i y;omega
  ·omega))
 have cx:=hd' (fun W r hT=>bh.out W r w5 e2 e9 bv (fun i hi=>by
  rcases N i hi with y|y
  ·exact .inl y
  ·exact .inr (by omega)) hT)
 clear J bh;go_wp2_with (go_at_call 146;(with_reducible refine e0.out.mono ?_);rintro r w6 hT;obtain⟨v6,rfl,cv⟩:=cx.out _ _ hT);go_returns;exact cv
def ztb (w w':World) (e:Ending) (s:Sh) (cl:Int) (j:Jb):Prop:=∃ jv,e= .returned jv/\JbO (fun i=> w.heap.size<=i/\i < w'.heap.size) w' jv s cl j/\Below w.heap.size w w'
theorem zue{q sp:Nat}{s:Sh}{k:Kl}{i:Bool}{jv:Value}{w:World}(h:zaa w q (zat s k i jv (.pointer (some ⟨sp,0,.none⟩))) 178)(hk:1<=k.op.k/\k.op.k<=4):
  Calls Tryz.prog 115 #[some q] w fun e w'=>ztb w w' e s k.c (zgl s k.c k.first k.op.k k.op.a k.op.n):=by
 have J:=fun W=>ztd s k.c k.op.n k.first W;have L:=fun W=>zq9 s k.c k.op.a W;have M:=fun W=>z3p s k.c k.op.a k.op.n k.first W;have N:=fun W=>z2a s k.c k.op.a W;have T:(k.op.k=1/\zgl s k.c k.first k.op.k k.op.a k.op.n= .mal (zdh s k.c k.op.n k.first) none)\/(k.op.k=2/\zgl s k.c k.first k.op.k k.op.a k.op.n= .fre (zc2 s k.c k.op.a))\/(k.op.k=3/\zgl s k.c k.first k.op.k k.op.a k.op.n= .aga (zhh s k.c k.op.a k.op.n k.first))\/(k.op.k=4/\zgl s k.c k.first k.op.k k.op.a k.op.n= .hei (zix s k.c k.op.a)):=by
  have:k.op.k=1\/k.op.k=2\/k.op.k=3\/k.op.k=4:=by omega
  rcases this with e|e|e|e
  ·exact .inl ⟨e,by rw[e];rfl⟩
  ·exact .inr (.inl ⟨e,by rw[e];rfl⟩)
  ·exact .inr (.inr (.inl ⟨e,by rw[e];rfl⟩))
  exact .inr (.inr (.inr ⟨e,by rw[e];rfl⟩))
 obtain⟨j,b2⟩:∃ j,j=zgl s k.c k.first k.op.k k.op.a k.op.n:=⟨_,rfl⟩;rw[<-b2]at T ⊢;clear b2 hk;have b1:=fun (Y:World) (q:Nat) (h:zaa Y q (za7 s (zc2 s k.c k.op.a) (.pointer none)) 276)=>zws h;generalize zdh s k.c k.op.n k.first=b4 at *;generalize zc2 s k.c k.op.a=b0 at *;generalize zhh s k.c k.op.a k.op.n k.first=b3 at *;generalize zix s k.c k.op.a=Z at *;obtain⟨B,O,⟨ok,oa,on⟩,kj,kt,ks⟩:=k;dsimp only at T J L M N ⊢
 have o:=hd' (fun (X Y W:World) (q1 E:Nat) (F:Below w.heap.size w X) (hO:RsO (fun i=>X.heap.size<=i/\i<Y.heap.size) Y q1 s b4) (hb:Below X.heap.size X Y) (hE:zaa W E (zg2 s B (.pointer (some ⟨q1,0,.none⟩)) (.pointer none)) 234) (b5:Y.heap.size<=E) (hW:Below Y.heap.size Y W)=>
  (⟨_,rfl,⟨E,rfl,fun i hi=>hi.2,⟨Nat.le_trans (Nat.le_trans F.size hb.size) b5,hE.lt⟩,q1,0,fun i=>X.heap.size<=i/\i<Y.heap.size,fun i hi=>⟨⟨Nat.le_trans F.size hi.1,Nat.lt_of_lt_of_le hi.2 hW.size⟩,fun e=>by omega⟩,hE,hO.bel hW,fun x hx=>(by cases hx)⟩,zab (zab F hb) hW⟩:ztb w W (.returned (.iface 229 (.pointer (some ⟨E,0,.none⟩)))) s B (.mal b4 none)))
 have p:=hd' (fun (X Y:World) (q1:Nat) (F:Below w.heap.size w X) (C:X.heap.size<=q1) (b:zaa Y q1 (za7 s b0 (.pointer none)) 276) (hb:Below X.heap.size X Y)=>
  (⟨_,rfl,⟨q1,rfl,⟨Nat.le_trans F.size C,b.lt⟩,(b1 Y q1 b).2.imp (fun q2 hh=>⟨hh.1,fun e=>by have:=hh.2 e;rw[this];exact⟨Nat.le_trans F.size C,b.lt⟩⟩)⟩,zab F hb⟩:ztb w Y (.returned (.iface 238 (.agg #[some q1]))) s B (.fre b0)))
 have y:=hd' (fun (X Y:World) (q1:Nat) (F:Below w.heap.size w X) (b:RrO (fun i=>X.heap.size<=i/\i<Y.heap.size) Y q1 s b3) (hb:Below X.heap.size X Y)=>
  (⟨_,rfl,⟨q1,rfl,b.weak (fun i hi=>⟨Nat.le_trans F.size hi.1,hi.2⟩) (fun i hi=>hi.2)⟩,zab F hb⟩:ztb w Y (.returned (.iface 242 (.agg #[some q1]))) s B (.aga b3)))
 have z:=hd' (fun (X Y:World) (q1:Nat) (F:Below w.heap.size w X) (C:X.heap.size<=q1) (b:zaa Y q1 (zan s Z) 282) (hb:Below X.heap.size X Y)=>
  (⟨_,rfl,⟨q1,rfl,⟨Nat.le_trans F.size C,b.lt⟩,b⟩,zab F hb⟩:ztb w Y (.returned (.iface 246 (.agg #[some q1]))) s B (.hei Z)))
 clear b1;obtain⟨l,G,H⟩:=s;dsimp only[zat]at h;dsimp only at J L M N;replace J:=hd' J;replace L:=hd' L;replace M:=hd' M;replace N:=hd' N;have R:q<w.heap.size:=h.lt;have I:=h.cell;rcases T with⟨rfl,U⟩|⟨rfl,U⟩|⟨rfl,U⟩|⟨rfl,U⟩;case inl=>
  subst U;clear L M N p y z;go_in;go_upto_region 3 with fail;have hd:=h.drew;have bd:Below w.heap.size w w.drew:=br.drew;clear R I h;have R:q<w.drew.heap.size:=hd.lt;have hS:=hd' (fun (Y:World) (b:zaa Y q #[l,G,H,B,O,.int .i64 1,oa,on,jv,i,kt,some sp,ks] 178)=>(⟨b.cell 0,b.cell 1,b.cell 2,b.cell 3,b.cell 4,b.cell 7⟩:Y.cell? ⟨q,0,.none⟩=some (.int .i64 l)/\Y.cell? ⟨q,1,.none⟩=some (.int .i64 G)/\Y.cell? ⟨q,2,.none⟩=some (.int .i64 H)/\Y.cell? ⟨q,3,.none⟩=some (.int .i64 B)/\Y.cell? ⟨q,4,.none⟩=some (.int .i64 O)/\Y.cell? ⟨q,7,.none⟩=some (.int .i64 on)))
  go_region_held3 (fun Y=>Y.cell? ⟨q,0,.none⟩=some (.int .i64 l)/\Y.cell? ⟨q,1,.none⟩=some (.int .i64 G)/\Y.cell? ⟨q,2,.none⟩=some (.int .i64 H)/\Y.cell? ⟨q,3,.none⟩=some (.int .i64 B)/\Y.cell? ⟨q,4,.none⟩=some (.int .i64 O)/\Y.cell? ⟨q,7,.none⟩=some (.int .i64 on))
   (first|exact hS.out _ hd|exact hS.out _ C|exact hS.out _ (C.alloc _))
   (first|(go_at_call 149;(with_reducible refine(J.out _).mono ?_);rintro r S ⟨q1,rfl,D,m⟩;have C:=hd.below m))
  go_wp2_with fail;go_returns;exact o.out w.drew S _ q1 S.heap.size bd D m (heap_alloc_new _ _) lr (br.alloc lr _)
 case inr.inl=>
  subst U;clear J M N o y z;go_in;go_upto_region 5 with fail;have hd:=h.drew;have bd:Below w.heap.size w w.drew:=br.drew;clear R I h;have R:q<w.drew.heap.size:=hd.lt;have hS:=hd' (fun (Y:World) (b:zaa Y q #[l,G,H,B,O,.int .i64 2,oa,on,jv,i,kt,some sp,ks] 178)=>(⟨b.cell 0,b.cell 1,b.cell 2,b.cell 3,b.cell 6⟩:Y.cell? ⟨q,0,.none⟩=some (.int .i64 l)/\Y.cell? ⟨q,1,.none⟩=some (.int .i64 G)/\Y.cell? ⟨q,2,.none⟩=some (.int .i64 H)/\Y.cell? ⟨q,3,.none⟩=some (.int .i64 B)/\Y.cell? ⟨q,6,.none⟩=some (.int .i64 oa)))
  go_region_held3 (fun Y=>Y.cell? ⟨q,0,.none⟩=some (.int .i64 l)/\Y.cell? ⟨q,1,.none⟩=some (.int .i64 G)/\Y.cell? ⟨q,2,.none⟩=some (.int .i64 H)/\Y.cell? ⟨q,3,.none⟩=some (.int .i64 B)/\Y.cell? ⟨q,6,.none⟩=some (.int .i64 oa))
   (first|exact hS.out _ hd|exact hS.out _ C|exact hS.out _ (C.alloc _))
   (first|(go_at_call 150;(with_reducible refine(L.out _).mono ?_);rintro r S ⟨q1,rfl,V,D,m⟩;have C:=hd.below m))
  go_wp2_with fail;go_returns;exact p.out w.drew S q1 bd V D m
 case inr.inr.inl=>
  subst U;clear J L N o p z;go_in;go_upto_region 7 with fail;have hd:=h.drew;have bd:Below w.heap.size w w.drew:=br.drew;clear R I h;have R:q<w.drew.heap.size:=hd.lt;have hS:=hd' (fun (Y:World) (b:zaa Y q #[l,G,H,B,O,.int .i64 3,oa,on,jv,i,kt,some sp,ks] 178)=>(⟨b.cell 0,b.cell 1,b.cell 2,b.cell 3,b.cell 4,b.cell 6,b.cell 7⟩:Y.cell? ⟨q,0,.none⟩=some (.int .i64 l)/\Y.cell? ⟨q,1,.none⟩=some (.int .i64 G)/\Y.cell? ⟨q,2,.none⟩=some (.int .i64 H)/\Y.cell? ⟨q,3,.none⟩=some (.int .i64 B)/\Y.cell? ⟨q,4,.none⟩=some (.int .i64 O)/\Y.cell? ⟨q,6,.none⟩=some (.int .i64 oa)/\Y.cell? ⟨q,7,.none⟩=some (.int .i64 on)))
  go_region_held3 (fun Y=>Y.cell? ⟨q,0,.none⟩=some (.int .i64 l)/\Y.cell? ⟨q,1,.none⟩=some (.int .i64 G)/\Y.cell? ⟨q,2,.none⟩=some (.int .i64 H)/\Y.cell? ⟨q,3,.none⟩=some (.int .i64 B)/\Y.cell? ⟨q,4,.none⟩=some (.int .i64 O)/\Y.cell? ⟨q,6,.none⟩=some (.int .i64 oa)/\Y.cell? ⟨q,7,.none⟩=some (.int .i64 on))
   (first|exact hS.out _ hd|exact hS.out _ C|exact hS.out _ (C.alloc _))
   (first|(go_at_call 151;(with_reducible refine(M.out _).mono ?_);rintro r S ⟨q1,rfl,D,m⟩;have C:=hd.below m))
  go_wp2_with fail;go_returns;exact y.out w.drew S q1 bd D m
 case inr.inr.inr=>
  subst U;clear J L M o p y;go_in;go_upto_region 8 with fail;have hd:=h.drew;have bd:Below w.heap.size w w.drew:=br.drew;clear R I h;have R:q<w.drew.heap.size:=hd.lt;have hS:=hd' (fun (Y:World) (b:zaa Y q #[l,G,H,B,O,.int .i64 4,oa,on,jv,i,kt,some sp,ks] 178)=>(⟨b.cell 0,b.cell 1,b.cell 2,b.cell 3,b.cell 6⟩:Y.cell? ⟨q,0,.none⟩=some (.int .i64 l)/\Y.cell? ⟨q,1,.none⟩=some (.int .i64 G)/\Y.cell? ⟨q,2,.none⟩=some (.int .i64 H)/\Y.cell? ⟨q,3,.none⟩=some (.int .i64 B)/\Y.cell? ⟨q,6,.none⟩=some (.int .i64 oa)))
  go_region_held3 (fun Y=>Y.cell? ⟨q,0,.none⟩=some (.int .i64 l)/\Y.cell? ⟨q,1,.none⟩=some (.int .i64 G)/\Y.cell? ⟨q,2,.none⟩=some (.int .i64 H)/\Y.cell? ⟨q,3,.none⟩=some (.int .i64 B)/\Y.cell? ⟨q,6,.none⟩=some (.int .i64 oa))
   (first|exact hS.out _ hd|exact hS.out _ C|exact hS.out _ (C.alloc _))
   (first|(go_at_call 152;(with_reducible refine(N.out _).mono ?_);rintro r S ⟨q1,rfl,V,D,m⟩;have C:=hd.below m))
  go_wp2_with fail;go_returns;exact z.out w.drew S q1 bd V D m
end Go.Proofs.YtkbddndcegpllaaGreat
