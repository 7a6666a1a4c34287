
import Derived.Test.YtkilokkopbajkaaGreatBw37

import Derived.Test.YtkilokkopbajkaaGreatBw40

set_option linter.all false
set_option maxHeartbeats 8000000
set_option maxRecDepth 100000
namespace Go.Proofs.YtkilokkopbajkaaGreat

open RowKit

attribute [local go_sem ↓] wp_at_zero wp_at_succ

theorem yov(h:Hp)(v:Value)(c x:Int)(w:World)(b:Bok w v h)(b8:0<=x)(b9:x<18446744073709551616)(hr:QC h.p h.c h.m x=true)(gk:h.pk (nA x 0)=2)(ga:h.pa (nA x 0)=nA x 2)(gs:h.sk (nA x 0) (nA x 1)=2)(gc:h.sa (nA x 0) (nA x 1)=c):
  Calls Tryz.prog 119 #[mF h v,c,.int .u64 x] w λe w'=>e=.returned (.tuple #[.agg #[.int .i64 (nA x 0),.int .i64 (nA x 1),.int .i64 (nA x 2)],.bool true])/\Below w.heap.size w w':=by
 obtain⟨b1,_,_,_⟩:=b.bd;obtain⟨ao,cap,hv,_,_,_⟩:=b.rd.cells;generalize h.xs.length=m at hv;subst hv;have o:=λX=>OV h.p h.c h.m x X b8 b9;have I:=λq X (M:Below w.heap.size w X) hq=>WG h (.slice ao m cap) q X (b.below M) hq;have J:=λq i X (M:Below w.heap.size w X) hq hi=>NJ h (.slice ao m cap) q i X (b.below M) hq hi;have b7:(0<=nA x 0/\nA x 0<h.p)/\(0<=nA x 1/\nA x 1<16):=by unfold QC at hr;simp only[jC,decide_eq_true_eq]at hr;have h1:=BA.1 (kM hr.1.2).2;have h2:=CC (nA x 2);have h3:=iF x 1;omega
 rw[hr]at o;clear hr;generalize nA x 0=z at*;generalize nA x 1=L at*;generalize nA x 2=r at*;replace I:=hd' I;replace J:=hd' J;clear b;obtain⟨t1,t2,t3,t4⟩:=vE w (.cells #[h.p,h.c,h.m,.slice ao m cap] 115) (.cells #[.int .i64 0,.int .i64 0,.int .i64 0] 183);replace o:∀X,jK 142 #[.agg #[h.p,h.c,h.m],.int .u64 x] X λe w'=>Below X.heap.size X w'/\e=.returned (.tuple #[.agg #[z,L,r],.bool true]):=o;replace o:=hd' o;obtain⟨N,b6⟩:=b7;have B:=λX M=>I z X M N;have C:=λX M=>J z L X M N b6;rw[gk,ga]at B;rw[gs,gc]at C;clear gk ga gs gc;generalize h.pn z=pn at*;generalize h.pb z=pb at*;replace B:=hd' B;replace C:=hd' C;go_in;go_wp2_with fail;refine(o _).mono ?_;rintro e w1 ⟨F,rfl⟩;have l:=F.alloc F.size (.cells #[z,L,r] 183);have S:=(l.block _ (by rw[t3];omega)).trans t1;have y:=(l.block _ (by rw[t3];omega)).trans t2;have Z:=t4.trans (l.mono t4.size);have O:=jA w1 (.cells #[z,L,r] 183);go_upto_region 2 with fail;obtain⟨H,hH,b2⟩:=hidv w.heap.size;rw[<-b2]at S y|-;have hR:w.heap.size<=H+1:=by omega
 have b4:H+1<w1.heap.size:=by have:=F.size;omega
 clear b2 t1 t2 t3 t4 F l;generalize w1.heap.size=E at O b4|-;generalize w1.alloc (.cells #[z,L,r] 183)=W at*;generalize H+1=R at*;have lR:=(jE y);have lE:=(jE O);have c0:W.cell? ⟨H,0,.none⟩=some (.int .i64 h.p):=iA S 0;have c1:W.cell? ⟨H,1,.none⟩=some (.int .i64 h.c):=iA S 1;have c2:W.cell? ⟨H,2,.none⟩=some (.int .i64 h.m):=iA S 2;have c3:W.cell? ⟨H,3,.none⟩=some (.slice ao m cap):=iA S 3;have E0:W.cell? ⟨E,0,.none⟩=some (.int .i64 z):=iA O 0;have E1:W.cell? ⟨E,1,.none⟩=some (.int .i64 L):=iA O 1;have E2:W.cell? ⟨E,2,.none⟩=some (.int .i64 r):=iA O 2;clear S O;go_wp2_with fail;refine(B _ Z).mono ?_;rintro e w2 ⟨rfl,l⟩;have j:=l.alloc l.size (.cells #[.int .i64 2,r,pn] 136);have T:=jA w2 (.cells #[.int .i64 2,r,pn] 136);have D:=Z.trans (j.mono Z.size);have y:=(j.block _ lR).trans y;have b3:R<w2.heap.size/\E<w2.heap.size:=by have:=l.size;omega
 have c0:=kA j _ _ _ c0;have c1:=kA j _ _ _ c1;have c2:=kA j _ _ _ c2;have c3:=kA j _ _ _ c3;have E0:=kA j _ _ _ E0;have E1:=kA j _ _ _ E1;have E2:=kA j _ _ _ E2;go_upto_region 5 with fail;generalize w2.heap.size=P at T b3|-;generalize w2.alloc (.cells #[.int .i64 2,r,pn] 136)=V at*;have P0:V.cell? ⟨P,0,.none⟩=some (.int .i64 2):=iA T 0;have P1:V.cell? ⟨P,1,.none⟩=some (.int .i64 r):=iA T 1;have lP:=(jE T);clear l j T;go_wp2_with fail;refine(C _ D).mono ?_;rintro e w3 ⟨rfl,G⟩;have n:=G.alloc G.size (.cells #[.int .i64 2,c] 139);have g3:=jA w3 (.cells #[.int .i64 2,c] 139);have b0:=D.trans (n.mono D.size);have y:=(n.block _ (jE y)).trans y;have b5:R<w3.heap.size:=by have:=G.size;have:=(Array.getElem?_eq_some_iff.1 ‹V.heap[R]?=_›).1;omega
 have E0:=kA n _ _ _ E0;have E1:=kA n _ _ _ E1;have E2:=kA n _ _ _ E2;have P0:=kA n _ _ _ P0;have P1:=kA n _ _ _ P1;go_upto_region 6 with fail;generalize w3.heap.size=Y at g3 b5|-;generalize w3.alloc (.cells #[.int .i64 2,c] 139)=U at*;have ba:=iA g3;have r0:U.cell? ⟨R,0,.none⟩=some (.int .i64 0):=iA y 0;have r1:U.cell? ⟨R,1,.none⟩=some (.int .i64 0):=iA y 1;have r2:U.cell? ⟨R,2,.none⟩=some (.int .i64 0):=iA y 2;have fR:=KA y;have nE:R≠E:=by omega
 have nP:R≠P:=by omega
 have nY:R≠Y:=by omega
 have Z:=b0;clear G n g3 y D b0 lR lE lP b4 b3 b5 c0 c1 c2 c3 I J B C o N b6;go_region_held3 (λX=>X.cell? ⟨E,0,.none⟩=some (.int .i64 z)/\X.cell? ⟨E,1,.none⟩=some (.int .i64 L)/\X.cell? ⟨E,2,.none⟩=some (.int .i64 r)/\X.cell? ⟨P,0,.none⟩=some (.int .i64 2)/\X.cell? ⟨P,1,.none⟩=some (.int .i64 r)/\X.cell? ⟨Y,0,.none⟩=some (.int .i64 2)/\X.cell? ⟨Y,1,.none⟩=some (.int .i64 c)) (go_keep) (fail);go_wp2;exact bodyPost_ret (v:=.tuple #[.agg #[z,L,r],.bool true]) (by simp[results,Tryz.results119,go_sem,r0,r1,r2]) rfl ⟨rfl,(((Z.setCell hR _).setCell hR _).setCell hR _).drew⟩
theorem yh6:(Tryz.prog.info? 3).isSome=true:=by kernel_rfl
theorem yiv:Tryz.prog.cellsOf 3=1:=by kernel_rfl
theorem sR(w:World)(d:Nat)(f b:List Int):∀(l:List Nat),(∀i∈l,i<f.length/\i<b.length)->(Op.eqItems (d+1) 3 1 (f.map (Value.int .i64)).toArray (b.map (Value.int .i64)).toArray l).run Tryz.prog w=.ok (l.all λi=>f.getD i 0==b.getD i 0) w
 | [],_=>by simp[Op.eqItems]
 |i::l,h=>by
  have hi:=h i (by simp)
  have p:=sR w d f b l λj o=>h j (by simp[o])
  have n:=Tryz.underlying3
  have q:(part 3 (f.map (Value.int .i64)).toArray (i*1)).run Tryz.prog w=.ok (.int .i64 (f.getD i 0)) w:=by
   simp[part,isAgg,run_underlying n,List.getD,List.getElem?_eq_getElem hi.1]
  have r:(part 3 (b.map (Value.int .i64)).toArray (i*1)).run Tryz.prog w=.ok (.int .i64 (b.getD i 0)) w:=by
   simp[part,isAgg,run_underlying n,List.getD,List.getElem?_eq_getElem hi.2]
  simp only[Op.eqItems,Sem.run_bind,q,r,run_equalIn_int w d _ .i64 .i64 _ _ n,Result.andThen_ok,List.all_cons]
  cases hb:(f.getD i 0==b.getD i 0)
  .simp
  .simpa using p
theorem yjm(a b c d:Int)(w:World):∃r:Bool,(Op.equal 74 (.agg #[a,b]) (.agg #[c,d])).run Tryz.prog w=.ok r w/\r=([0,1].all λi=>[a,b].getD i 0==[c,d].getD i 0):=by
 obtain⟨f,hi⟩:=Option.isSome_iff_exists.1 yh6;refine⟨_,?_,rfl⟩;show (Op.equalIn (9998+2) 74 (.agg ([a,b].map (Value.int .i64)).toArray) (.agg ([c,d].map (Value.int .i64)).toArray)).run Tryz.prog w=_;rw[run_equalIn_array w (9998+1) _ _ Tryz.underlying74 hi,yiv,sR w 9998 [a,b] [c,d] _ (λi hi=>by have:=List.mem_range.1 hi;simp;omega)];rfl
theorem uR(e:Bool)(a b:Int)(w:World):(Instr.checkKey e 10000 74 (.agg #[a,b])).run Tryz.prog w=.ok () w:=by
 kernel_rfl
def JG (es:Array MapEntry):Prop:=∀e∈es.toList,(∃a b:Int,e.key=.agg #[a,b])/\e.val=.agg #[]
theorem JG.nil:JG #[]:=λe b=>by simp at b
theorem JG.push{es:Array MapEntry}(h:JG es)(a b:Int)(n:Nat):JG (es.push ⟨.agg #[a,b],.agg #[],n⟩):=λe f=>by
 simp only[Array.toList_push,List.mem_append,List.mem_singleton]at f
 rcases f with f|f
 .exact h e f
 .subst f;exact⟨⟨a,b,rfl⟩,rfl⟩
theorem vR(a b:Int):∀(es:List MapEntry) (i:Nat),(∀e∈es,(∃a b:Int,e.key=.agg #[a,b])/\e.val=.agg #[])->
  ∃r:Option Nat,(∀w:World,(Instr.findAsking 74 (.agg #[a,b]) es i).run Tryz.prog w=.ok (r.map λj=>(j,.agg #[])) w)/\((∀e∈es,e.key≠.agg #[a,b])->r=none)
 | [],i,_=>⟨none,λw=>rfl,λ_=>rfl⟩
 |e::es,i,h=>by
  obtain⟨⟨c,d,l⟩,z⟩:=h e (by simp)
  obtain⟨r,y,p⟩:=vR a b es (i+1) λe n=>h e (by simp[n])
  have f:=λw=>yjm a b c d w
  cases hb:([0,1].all λi=>[a,b].getD i 0==[c,d].getD i 0)
  .refine⟨r,λw=>?_,λl=>p λe n=>l e (by simp[n])⟩
   obtain⟨q,h1,h2⟩:=f w
   rw[hb]at h2;subst h2
   simp only[Instr.findAsking,Sem.run_bind,l,h1,Result.andThen_ok]
   exact y w
  .refine⟨some i,λw=>?_,λo=>(o e (by simp) ?_).elim⟩
   rotate_left
   .simp only[List.all_cons,List.all_nil,Bool.and_true,jC,List.getD_cons_zero,List.getD_cons_succ,beq_iff_eq]at hb
    rw[l,hb.1,hb.2]
   obtain⟨q,h1,h2⟩:=f w
   rw[hb]at h2;subst h2
   simp only[Instr.findAsking,Sem.run_bind,l,h1,Result.andThen_ok]
   simp[z]
theorem yjs(a b:Int)(es:Array MapEntry)(h:JG es):∃r:Option Nat,(∀w:World,(Instr.findKey 74 (.agg #[a,b]) es.toList).run Tryz.prog w=.ok (r.map λj=>(j,.agg #[])) w)/\((∀e∈es.toList,e.key≠.agg #[a,b])->r=none):=by
 obtain⟨r,o,i⟩:=vR a b es.toList 0 h;have hu:=Tryz.underlying74;cases hes:es.toList with
 |nil=>refine⟨none,λw=>?_,λ_=>rfl⟩;simp[Instr.findKey,Instr.findNow,run_underlying hu]
 |cons e l=>
  refine⟨r,λw=>?_,λf=>i (hes▸f)⟩;rw[<-hes];have n:∀d:TypeDesc,(∀k,d≠.int k)->d≠.string->d≠.bool->Instr.findNow d (.agg #[a,b]) es.toList 0=none:=λd h1 h2 h3=>by rw[hes];obtain⟨⟨c,d',f⟩,_⟩:=h e (by rw[hes];simp);simp only[Instr.findNow,f];cases d<;>simp_all [Instr.sameNow]
  simp only[Instr.findKey,Sem.run_bind,run_underlying hu,Result.andThen_ok];rw[n _ (λk=>by simp) (by simp) (by simp)];exact o w
theorem yju(w:World):(zeroValue 186).run Tryz.prog w=.ok (.agg #[]) w:=by kernel_rfl
def oG (w:World) (M:Nat) (es:Array MapEntry) (c:Nat):World:={w with heap:=w.heap.setIfInBounds M (.map es c)}
theorem yij{w:World}{M:Nat}(es:Array MapEntry)(c:Nat)(h:M<w.heap.size):(oG w M es c).heap[M]?=some (.map es c):=by
 unfold oG;simp[h]
theorem yh4(w:World)(M:Nat)(es:Array MapEntry)(c:Nat):(oG w M es c).heap.size=w.heap.size:=by simp[oG]
theorem map2(a b:Int)(es:Array MapEntry)(h:JG es):∃r:Bool,(∀(w:World) (M c:Nat),w.heap[M]?=some (.map es c)->(Instr.lookup 182 (.map (some M)) (.agg #[a,b]) true).run Tryz.prog w=.ok (.tuple #[.agg #[],r]) w)/\(r=false->∀(w:World) (M c:Nat),w.heap[M]?=some (.map es c)->(Instr.mapUpdate 182 (.map (some M)) (.agg #[a,b]) (.agg #[])).run Tryz.prog w=.ok () (oG w M (es.push ⟨.agg #[a,b],.agg #[],c⟩) (c+1)))/\((∀e∈es.toList,e.key≠.agg #[a,b])->r=false):=by
 obtain⟨r,p,n⟩:=yjs a b es h;have hu:=Tryz.underlying182;refine⟨r.isSome,λw M c f=>?_,λy w M c f=>?_,λq=>by rw[n q];rfl⟩
 .have l:(getObj M).run Tryz.prog w=.ok (.map es c) w:=by simp[getObj,Sem.run,f]
  have z:=yju w;have hc:=uR es.isEmpty a b w;have i:=p w;cases r with
  |none=>simp[Instr.lookup,run_underlying hu,l,hc,i,z]
  |some j=>simp[Instr.lookup,run_underlying hu,l,hc,i]
 have l:(getObj M).run Tryz.prog w=.ok (.map es c) w:=by simp[getObj,Sem.run,f]
 have hc:=uR false a b w;have i:=p w;cases r with
 |some j=>cases y;|none=>
  have hs:∀o,(setObj M o).run Tryz.prog w=.ok () {w with heap:=w.heap.setIfInBounds M o}:=λo=>by simp[setObj,Sem.run,f]
  simp[Instr.mapUpdate,run_underlying hu,l,hc,i,hs,oG]
structure Hp.dL (h:Hp):Prop where
 en:∀c i:Nat,(c:Int)<h.c->(i:Int)<h.m->h.mx c i≠0->QC h.p h.c h.m (h.mx c i)=true/\h.pk (nA (h.mx c i) 0)=2/\h.pa (nA (h.mx c i) 0)=nA (h.mx c i) 2/\h.sk (nA (h.mx c i) 0) (nA (h.mx c i) 1)=2/\h.sa (nA (h.mx c i) 0) (nA (h.mx c i) 1)=c
 on:∀c i c' i':Nat,(c:Int)<h.c->(i:Int)<h.m->(c':Int)<h.c->(i':Int)<h.m->h.mx c i≠0->h.mx c' i'≠0->nA (h.mx c i) 0=nA (h.mx c' i') 0->nA (h.mx c i) 1=nA (h.mx c' i') 1->c=c'/\i=i'
theorem Bok.yr6{w:World}{v:Value}{h:Hp}(b:Bok w v h):∃ao cap,v=.slice ao h.xs.length cap/\
  ∀c i:Nat,(c:Int)<h.c->(i:Int)<h.m->∃(g f:Nat) (k:Nat),ao=some ⟨g,f,.none⟩/\g<w.heap.size/\kC h.p h.c h.m c i=(k:Int)/\k<h.xs.length/\w.cell? ⟨g,f+k,.none⟩=some (.int .u64 (h.mx c i))/\0<=h.mx c i/\h.mx c i<18446744073709551616:=by
 obtain⟨D,E,F,G⟩:=b.bd;obtain⟨ao,cap,o,_,_,_⟩:=b.rd.cells;refine⟨ao,cap,o,λc i hc hi=>?_⟩;have r:=TE (c:=(c:Int)) (m:=h.m) (C:=h.c-1) (M:=h.m) (by omega) (by omega);have z:(h.c-1)*h.m=h.c*h.m-h.m:=by rw[Int.sub_mul,Int.one_mul]
 have h0:=TE (c:=h.c) (m:=h.m) (C:=12) (M:=8) (by omega) (by omega);obtain⟨g,f,n,k,j,_,t,y,l,B⟩:=b.word (h.c+h.p+h.p*16+c*h.m+i) (by omega) (by omega);rw[o]at j;injection j with q _ _;refine⟨g,f,k,q,t,?_,l,B,h.EL b.fit _⟩;unfold kC;rw[jP ⟨b.may,BA.2 (by omega),BA.2 (by omega)⟩,y]
def MapG (w:World) (M:Nat) (h:Hp) (c i:Nat):Prop:=∃es n,JG es/\(∀e∈es.toList,∃d j:Nat,(d<c/\(j:Int)<h.m\/d=c/\j<i)/\h.mx d j≠0/\e.key=.agg #[.int .i64 (nA (h.mx d j) 0),.int .i64 (nA (h.mx d j) 1)])/\w.heap[M]?=some (.map es n)
theorem MapG.below{w w':World}{M:Nat}{h:Hp}{c i:Nat}(g:MapG w M h c i)(hb:Below w.heap.size w w'):MapG w' M h c i:=by
 obtain⟨es,n,j,f,b⟩:=g;exact⟨es,n,j,f,(hb.block M (jE b)).trans b⟩
theorem MapG.skip{w:World}{M:Nat}{h:Hp}{c i:Nat}(g:MapG w M h c i):MapG w M h c (i+1):=by
 obtain⟨es,n,o,f,l⟩:=g;refine⟨es,n,o,λe b=>?_,l⟩;obtain⟨d,j,h1,h2,h3⟩:=f e b;exact⟨d,j,by omega,h2,h3⟩
theorem MapG.next{w:World}{M:Nat}{h:Hp}{c q:Nat}(g:MapG w M h c q)(o:h.m=q):MapG w M h (c+1) 0:=by
 obtain⟨es,n,l,f,i⟩:=g;refine⟨es,n,l,λe b=>?_,i⟩;obtain⟨d,j,h1,h2,h3⟩:=f e b;exact⟨d,j,by omega,h2,h3⟩
theorem MapG.new{w:World}{M:Nat}{h:Hp}{c i:Nat}(o:h.dL)(g:MapG w M h c i)(hc:(c:Int)<h.c)(hi:(i:Int)<h.m)(h0:h.mx c i≠0):∃es n,w.heap[M]?=some (.map es n)/\(∀(w:World) (M n:Nat),w.heap[M]?=some (.map es n)->(Instr.lookup 182 (.map (some M)) (.agg #[.int .i64 (nA (h.mx c i) 0),.int .i64 (nA (h.mx c i) 1)]) true).run Tryz.prog w=.ok (.tuple #[.agg #[],.bool false]) w)/\(∀(w:World) (M n:Nat),w.heap[M]?=some (.map es n)->(Instr.mapUpdate 182 (.map (some M)) (.agg #[.int .i64 (nA (h.mx c i) 0),.int .i64 (nA (h.mx c i) 1)]) (.agg #[])).run Tryz.prog w=.ok () (oG w M (es.push ⟨.agg #[.int .i64 (nA (h.mx c i) 0),.int .i64 (nA (h.mx c i) 1)],.agg #[],n⟩) (n+1)))/\(∀(w:World) (M n:Nat),w.heap[M]?=some (.map es n)->MapG (oG w M (es.push ⟨.agg #[.int .i64 (nA (h.mx c i) 0),.int .i64 (nA (h.mx c i) 1)],.agg #[],n⟩) (n+1)) M h c (i+1)):=by
 obtain⟨es,n,y,q,B⟩:=g;obtain⟨r,h1,h2,h3⟩:=map2 (nA (h.mx c i) 0) (nA (h.mx c i) 1) es y;have C:r=false:=h3 λe f b=>by obtain⟨d,j,k1,l,p⟩:=q e f;rw[p]at b;simp only[Value.agg.injEq,Array.mk.injEq,List.cons.injEq,Value.int.injEq,and_true,true_and]at b;have:=o.on d j c i (by omega) (by omega) hc hi l h0 b.1 b.2;omega
 subst C;refine⟨es,n,B,h1,h2 rfl,λw M n z=>⟨_,_,y.push _ _ n,λe f=>?_,yij _ _ (jE z)⟩⟩;simp only[Array.toList_push,List.mem_append,List.mem_singleton]at f;rcases f with f|rfl
 .obtain⟨d,j,k1,l,p⟩:=q e f;exact⟨d,j,by omega,l,p⟩
 exact⟨c,i,by omega,h0,rfl⟩
theorem ynm(h:Hp)(v:Value)(w:World)(b:Bok w v h)(o:h.dL):
  Calls Tryz.prog 80 #[mF h v] w λe w'=>e=.returned (.bool true)/\Below w.heap.size w w':=by
 obtain⟨b1,b2,b3,b4⟩:=b.bd;obtain⟨ao,cap,hv,l⟩:=b.yr6;have b7:=λx i=>gM h.p h.c h.m x i;have Z:=λ(c i:Nat) X (hX:Below w.heap.size w X) h0 h1 (k0:(c:Int)<h.c) (k1:(i:Int)<h.m) (k2:h.mx c i≠0)=>yov h v c (h.mx c i) X (b.below hX) h0 h1 (o.en c i k0 k1 k2).1 (o.en c i k0 k1 k2).2.1 (o.en c i k0 k1 k2).2.2.1 (o.en c i k0 k1 k2).2.2.2.1 (o.en c i k0 k1 k2).2.2.2.2;generalize h.xs.length=n at hv l;subst hv;obtain⟨C,hC⟩:∃C:Nat,Hid (h.c=C):=⟨h.c.toNat,hd' (by omega)⟩;obtain⟨Q,hQ⟩:∃Q:Nat,Hid (h.m=Q):=⟨h.m.toNat,hd' (by omega)⟩;replace l:=hd' l;replace b7:=hd' b7;replace Z:=hd' Z;have bx:=hd' o;clear b o;have bv:∀u:World,(Instr.makeMap 182 none).run Tryz.prog u=.ok (.map (some u.heap.size)) (u.alloc (.map #[] 0)):=λu=>by rfl
 obtain⟨t1,t2,t3,t4⟩:=vE w (.cells #[h.p,h.c,h.m,.slice ao n cap] 115) (.map #[] 0);go_in;go_upto_region 2 with fail;obtain⟨H,hH,S⟩:=hidv w.heap.size;generalize (w.alloc (.cells #[h.p,h.c,h.m,.slice ao n cap] 115)).alloc (.map #[] 0)=W at*;rw[<-S]at t1 t2 t3 t4|-;have c4:w.heap.size<=H+1:=by omega
 have I:H≠H+1:=by omega
 have lH:H<W.heap.size:=by omega
 have lM:H+1<W.heap.size:=by omega
 rw[S]at t4;clear S t3;generalize H+1=M at*;have bu:MapG W M h 0 0:=⟨_,_,JG.nil,λe he=>by simp at he,t2⟩;have c0:W.cell? ⟨H,0,.none⟩=some (.int .i64 h.p):=iA t1 0;have c1:W.cell? ⟨H,1,.none⟩=some (.int .i64 h.c):=iA t1 1;have c2:W.cell? ⟨H,2,.none⟩=some (.int .i64 h.m):=iA t1 2;have c3:W.cell? ⟨H,3,.none⟩=some (.slice ao n cap):=iA t1 3;have C1:W.cell? ⟨H,1,.none⟩=some (.int .i64 C):=by rw[c1,hC]
 replace C1:=hd' C1;clear t1 t2 bv;have lz:∀X,Only (atN M) W X->X.cell? ⟨H,0,.none⟩=some (.int .i64 h.p)/\X.cell? ⟨H,1,.none⟩=some (.int .i64 h.c)/\X.cell? ⟨H,2,.none⟩=some (.int .i64 h.m)/\X.cell? ⟨H,3,.none⟩=some (.slice ao n cap)/\Below w.heap.size w X:=λX ho=>⟨(ho.xC lH I 0).trans c0,(ho.xC lH I 1).trans c1,(ho.xC lH I 2).trans c2,(ho.xC lH I 3).trans c3,Only.cJ t4 ho t4.size c4⟩
 replace lz:=hd' lz;clear C1;go_wp2_with fail;go_loopw [16] (λvi wr=>∃i:Nat,i<=C/\vi=.int .i64 i/\Only (atN M) W wr/\MapG wr M h i 0) (λvi _=>C-(intOf vi).toNat);case atStart=>exact⟨0,Nat.zero_le _,rfl,Only.refl _ _,bu⟩
 case round=>
  obtain⟨i,hi,rfl,bj,bw⟩:=hrel;obtain⟨d0,d1,d2,d3,bp⟩:=lz _ bj;by_cases b6:(i:Int)<h.c
  .have c9:i<C:=by have:=hC.out;omega
   go_wp2_with fail;obtain⟨Wr,rfl⟩:∃V:World,V=wr:=⟨_,rfl⟩;go_loopw [22] (λvj wr=>∃j:Nat,j<=Q/\vj=.int .i64 j/\Only (atN M) W wr/\MapG wr M h i j) (λvj _=>Q-(intOf vj).toNat);case atStart=>exact⟨0,Nat.zero_le _,rfl,bj,bw⟩
   case round=>
    obtain⟨j,hj,rfl,O,b9⟩:=hrel;obtain⟨f0,f1,f2,f3,bf⟩:=lz _ O;by_cases b0:(j:Int)<h.m
    .have cb:j<Q:=by have:=hQ.out;omega
     obtain⟨g,cg,k,rfl,hg,bh,cf,hx,bk,bm⟩:=l i j b6 b0;have N:=b7 i j;rw[bh]at N;replace hx:=kA bf _ _ _ hx;have c6:H<wr.heap.size:=GG f0;have c7:g<wr.heap.size:=GG hx;have cc:(0:Int)<=(k:Int):=by omega
     have cd:(k:Int)<(n:Int):=by omega
     have c8:(0:Int)<=(i:Int):=by omega
     have ca:(0:Int)<=(j:Int):=by omega
     have D:=λX hX R=>Z i j X hX bk bm b6 b0 R;have y:=λX (hX:MapG X M h i j) R=>MapG.new bx hX b6 b0 R;generalize c5:h.mx i j=x at hx bk bm D y;replace N:=hd' N;replace D:=hd' D;replace y:=hd' y;clear bh d0 d1 d2 d3 c5;go_upto_region 8 with fail;refine wre ?_;repeat (go_big_quiet_step ((go_at_call 118;exact AA (N _))))
     refine wpQuiet_nil ?_;rintro _ ⟨e,rfl⟩;have ba:=O.trans (Only.of_below e.below) (λ_ _ h=>h);have bi:=b9.below e.below;clear b9 O f0 f1 f2 f3 hx c6 c7 bf;generalize e.w=V at*;clear e;obtain⟨f0,f1,f2,f3,bn⟩:=lz _ ba;by_cases R:x=0
     .have bc:(x==0)=true:=by rw[beq_iff_eq];exact R
      go_wp2;exact⟨⟨j+1,by omega,by go_num,ba,bi.skip⟩,by simp[intOf];omega⟩
     have bc:(x==0)=false:=by rw[beq_eq_false_iff_ne];exact R
     go_wp2_with fail;have E:=y.out;have r:=D _ bn R;generalize nA x 0=z at r E;generalize nA x 1=B at r E;generalize nA x 2=e2 at r;replace E:=hd' E;clear R;refine r.mono ?_;rintro e w3 ⟨rfl,Y⟩;have o3:=(ba.trans (Only.of_below Y) (λ_ _ h=>h)).alloc (.cells #[z,B,e2] 183);have m3:=(bi.below Y).below (br.alloc lr (.cells #[z,B,e2] 183));have o4:=o3.alloc (.cells #[z,B] 74);have m4:=m3.below (br.alloc lr (.cells #[z,B] 74));have g4:=jA (w3.alloc (.cells #[z,B,e2] 183)) (.cells #[z,B] 74);go_upto_region 12 with fail;rw[show (w3.alloc (.cells #[z,B,e2] 183)).heap.size=w3.heap.size+1 from by simp]at g4;generalize w3.heap.size+1=A at g4|-;generalize (w3.alloc (.cells #[z,B,e2] 183)).alloc (.cells #[z,B] 74)=U at*;have a0:U.cell? ⟨A,0,.none⟩=some (.int .i64 z):=iA g4 0;have a1:U.cell? ⟨A,1,.none⟩=some (.int .i64 B):=iA g4 1;clear o3 m3 Y D r;obtain⟨es,cl,J,b5,bb,b8⟩:=E U m4 (λh0=>by rw[h0]at bc;cases bc);have hl:=b5 U M cl J;replace b5:=hd' b5;replace bb:=hd' bb;replace b8:=hd' b8;have o5:=o4.alloc (.cells #[] 186);have L:Below U.heap.size U (U.alloc (.cells #[] 186)):=br.alloc lr _;have a0:=kA L _ _ _ a0;have a1:=kA L _ _ _ a1;have bg:=(L.block M (jE J)).trans J;go_upto_region 13 with fail;clear hl J g4 L o4;generalize U.alloc (.cells #[] 186)=T at*;have hu:=bb T M cl bg
     have o6:Only (atN M) W (oG T M (es.push ⟨.agg #[z,B],.agg #[],cl⟩) (cl+1)):=o5.trans (F:=atN M) (G:=atN M) ⟨rfl,rfl,rfl,by rw[yh4];exact Nat.le_refl _,λq hq bz=>by
      unfold oG
      simp only
      rw[Array.getElem?_setIfInBounds_ne (λe=>bz e.symm)]⟩ (λ_ _ h=>h)
     have m6:=b8 T M cl bg;go_wp2;exact⟨⟨j+1,by omega,by go_num,o6,m6⟩,by simp[intOf];omega⟩
    have bs:j=Q:=by have:=hQ.out;omega
    subst bs;go_wp2;exact⟨⟨i+1,by omega,by go_num,O,b9.next hQ.out⟩,by simp[intOf];omega⟩
  have bq:i=C:=by have:=hC.out;omega
  subst bq;go_wp2;go_ret;exact⟨rfl,bp⟩
def sq (f:Nat->Int):Nat->Int
 | 0=>0
 |n+1=>sq f n+f n
theorem DI{f g:Nat->Int}{n:Nat}(h:∀i,i<n->f i<=g i):sq f n<=sq g n:=by
 induction n with
 |zero=>exact Int.le_refl _;|succ n b=>have h1:=b λi hi=>h i (by omega);have h2:=h n (by omega);show sq f n+f n<=sq g n+g n;omega
theorem MS(f g:Nat->Int)(n:Nat):sq (λi=>f i+g i) n=sq f n+sq g n:=by
 induction n with
 |zero=>rfl;|succ n b=>show sq (λi=>f i+g i) n+(f n+g n)=sq f n+f n+(sq g n+g n);omega
theorem uJ{f g:Nat->Int}{n:Nat}(h:∀i,i<n->f i=g i):sq f n=sq g n:=Int.le_antisymm (DI λi hi=>Int.le_of_eq (h i hi)) (DI λi hi=>Int.le_of_eq (h i hi).symm)
theorem dH(n:Nat):sq (λ_=>0) n=0:=by
 induction n with
 |zero=>rfl
 |succ n b=>show sq (λ_=>0) n+0=0;omega
theorem yrp{f:Nat->Int}{n j:Nat}(h:∀i,i<n->0<=f i)(l:j<n):f j<=sq f n:=by
 induction n with
 |zero=>omega;|succ n b=>
  have h0:0<=sq f n:=by have:=DI (f:=λ_=>0) (g:=f) (n:=n) λi hi=>h i (by omega);rw[dH]at this;exact this
  have h1:=h n (by omega);show f j<=sq f n+f n;by_cases e:j=n
  .subst e;omega
  have:=b (λi hi=>h i (by omega)) (by omega);omega
theorem JS(b:Int)(n:Nat):sq (λi=>if (i:Int)=b then 1 else 0) n<=(if 0<=b/\b<n then 1 else 0):=by
 induction n with
 |zero=>show (0:Int)<=_;split<;>omega;|succ n f=>
  show sq _ n+(if (n:Int)=b then 1 else 0)<=_;by_cases e:(n:Int)=b
  .rw[jP e,jP (show 0<=b/\b<((n+1:Nat):Int) by omega)];rw[jN (by omega)]at f;omega
  rw[jN e];split at f
  .rw[jP (by omega)];omega
  split<;>omega
def MW.at (x:MW) (p i:Nat):Int:=match x with
 |.none=>0
 |.entry q j _=>if (p:Int)=q then (if (i:Int)=j then 1 else 0) else 0
theorem MW.eT(x:MW)(p i:Nat):0<=x.at p i:=by
 unfold MW.at;repeat' split
 all_goals omega
theorem MW.yrf(x:MW)(P:Nat):sq (λp=>sq (λi=>x.at p i) 16) P<=1:=by
 cases x with
 |none=>have:sq (λp=>sq (λi=>MW.none.at p i) 16) P=sq (λ_=>0) P:=uJ λp _=>dH 16;rw[this,dH];omega
 |entry q j k=>
  have h1:sq (λp=>sq (λi=>(MW.entry q j k).at p i) 16) P<=sq (λp=>if (p:Int)=q then 1 else 0) P:=DI λp _=>by
   by_cases e:(p:Int)=q
   .rw[jP e];have h2:sq (λi=>(MW.entry q j k).at p i) 16=sq (λi=>if (i:Int)=j then 1 else 0) 16:=uJ λi _=>by show (if (p:Int)=q then _ else _)=_;rw[jP e]
    rw[h2];have:=JS j 16;split at this<;>omega
   rw[jN e];have h2:sq (λi=>(MW.entry q j k).at p i) 16=sq (λ_=>0) 16:=uJ λi _=>by show (if (p:Int)=q then _ else _)=_;rw[jN e]
   rw[h2,dH];omega
  have:=JS q P;split at this<;>omega
theorem yo9(f:Nat->MW)(P M:Nat):sq (λp=>sq (λi=>sq (λj=>(f j).at p i) M) 16) P<=M:=by
 induction M with
 |zero=>have:sq (λp=>sq (λi=>sq (λj=>(f j).at p i) 0) 16) P=sq (λ_=>0) P:=uJ λp _=>dH 16;rw[this,dH];omega
 |succ M b=>have h1:sq (λp=>sq (λi=>sq (λj=>(f j).at p i) (M+1)) 16) P=sq (λp=>sq (λi=>sq (λj=>(f j).at p i) M) 16+sq (λi=>(f M).at p i) 16) P:=uJ λp _=>MS _ _ 16;rw[h1,MS];have:=MW.yrf (f M) P;omega
section

variable {s:Sh}{m:Mem}{σ:Ab}{c:Int}

structure Last (s:Sh) (σ:Ab) (c:Int):Prop where
 cr:0<=c/\c<s.c
 lv:σ.st c=.live
 ex:∀z,0<=z/\z<s.c->xA σ z .no
 mg:∀z,z≠c->∀i,σ.mg z i=.none
 no:∀b,¬ σ.has b
theorem Last.lvB(h:Last s σ c)(b:Rep s m σ):(hpOf s m).lv c=true:=by
 have h1:=b.st c h.cr;rw[(ixs b.fi).2.2.2 _ h.cr,h.lv]at h1;have h2:wd m.ws c=ZA 1 0:=h1;unfold Hp.lv hpOf;dsimp only;rw[b.may,h2,Bool.true_and,jC];exact⟨BA.2 (by have:=h.cr;omega),by decide⟩
theorem Last.held(h:Last s σ c)(f:GI s σ){p o:Int}(e:σ.pg p=.held o):False:=by
 have b:=f.pf p;rw[e]at b;exact((h.ex o b.2).h p).1 e
theorem ypi(C:Rep s m σ)(r:GI s σ)(h:Last s σ c){a:Nat}(L:(a:Int)<s.p):((hpOf s m).pgC a).t=0/\((hpOf s m).pgC a).o=0/\((hpOf s m).pgC a).l<=32*sq (λi=>sq (λj=>(σ.mg c (j:Nat)).at a i) s.m.toNat) 16:=by
 have b0:=C.fi.bd;obtain⟨h1,h2,h3⟩:=SF C r (a:=(a:Int)) ⟨by omega,L⟩;have D:∀i:Nat,0<=sq (λj=>(σ.mg c (j:Nat)).at a i) s.m.toNat:=λi=>by have:=DI (f:=λ_=>0) (g:=λj=>(σ.mg c (j:Nat)).at a i) (n:=s.m.toNat) λj _=>MW.eT _ _ _;rw[dH]at this;exact this
 have J:0<=sq (λi=>sq (λj=>(σ.mg c (j:Nat)).at a i) s.m.toNat) 16:=by have:=DI (f:=λ_=>0) (n:=16) λi _=>D i;rw[dH]at this;exact this
 have B:∀n,σ.pg a≠.large n:=λn e=>h.no (.lar a n) e
 have hb:(hpOf s m).hb a=false:=by
  unfold Hp.hb Hp.hd
  rw[h1,h2,h3,Bool.true_and]
  cases e:σ.pg a with
  |held o=>exact(h.held r e).elim
  |body q=>
   rw[jP (by simp[PW.kind])]
   have M:=r.pf a
   rw[e]at M
   obtain⟨_,b1,b2,b3⟩:=M
   rcases r.bd a q e with⟨o,y⟩|⟨n,y,_⟩
   .exact(h.held r y).elim
   .exact(h.no (.lar q n) y).elim
  |empty=>rw[jN (by simp[PW.kind]),h2,e];simp[PW.kind]
  |super k b=>rw[jN (by simp[PW.kind]),h2,e];simp[PW.kind]
  |large n=>exact(B n e).elim
 unfold Hp.pgC;rw[hb,h1,jN (by simp)];cases e:σ.pg a with
 |held o=>exact(h.held r e).elim
 |large n=>exact(B n e).elim;|body q=>
  rcases r.bd a q e with⟨o,y⟩|⟨n,y,_⟩
  .exact(h.held r y).elim
  exact(h.no (.lar q n) y).elim
 |empty=>rw[jP (by rw[h2,e];rfl)];exact⟨rfl,rfl,show (0:Int)<=_ by omega⟩
 |super k b=>
  have I:(hpOf s m).pa a=k:=by rw[h3,e];rfl
  rw[jN (by rw[h2,e];simp[PW.kind]),jP (by rw[h2,e];rfl),I];have b5:=CC k;have b6:=GH k
  have key:∀n:Nat,(n:Int)<=mA k->((hpOf s m).slS a (zA k) n).t=0/\((hpOf s m).slS a (zA k) n).o=0/\((hpOf s m).slS a (zA k) n).l<=32*sq (λi=>sq (λj=>(σ.mg c (j:Nat)).at a i) s.m.toNat) n:=by
   intro n
   induction n with
   |zero=>intro _;exact⟨rfl,rfl,Int.le_refl _⟩
   |succ n R=>
    intro hn
    obtain⟨i1,i2,i3⟩:=R (by omega)
    have S:(hpOf s m).slS a (zA k) (n+1)=((hpOf s m).slS a (zA k) n).add ((hpOf s m).slC a (zA k) n):=rfl
    have y:sq (λi=>sq (λj=>(σ.mg c (j:Nat)).at a i) s.m.toNat) (n+1)=sq (λi=>sq (λj=>(σ.mg c (j:Nat)).at a i) s.m.toNat) n+sq (λj=>(σ.mg c (j:Nat)).at a n) s.m.toNat:=rfl
    have Z:=D n
    suffices hs:((hpOf s m).slC a (zA k) n).t=0/\((hpOf s m).slC a (zA k) n).o=0/\((hpOf s m).slC a (zA k) n).l<=32*sq (λj=>(σ.mg c (j:Nat)).at a n) s.m.toNat by
     obtain⟨j1,j2,j3⟩:=hs
     rw[S,y]
     unfold Cn.add
     dsimp only
     exact⟨by omega,by omega,by omega⟩
    obtain⟨T,U⟩:=MG C r (a:=(a:Int)) ⟨by omega,L⟩ (i:=(n:Int)) (by omega)
    have hs:=r.sk a n
    rw[e]at hs
    unfold ND at hs
    dsimp only at hs
    rw[jP ⟨by omega,by omega⟩]at hs
    unfold Hp.slC
    rw[T,U]
    rcases hs with z|z|⟨o,z⟩
    .rw[z,jP (by simp[SW.kind])];exact⟨rfl,rfl,show (0:Int)<=_ by omega⟩
    .exact(h.no (.sm a n k) z).elim
    .have O:=r.sf a n
     rw[z]at O
     have H:0<=o/\o<s.c:=O
     rcases((h.ex o H).w a n k).1 ⟨⟨b,e⟩,z⟩ with h4|⟨j,h4⟩
     .exact h4.elim
     .have G:o=c:=Decidable.byContradiction λF=>by rw[h.mg o F j]at h4;cases h4
      rw[G]at h4 z
      have b4:=(r.mr c j (by rw[h4];exact λe=>by cases e)).2
      rw[z,jN (by simp[SW.kind]),jN (by simp[SW.kind])]
      have E:(SW.kind (.way c)==2&&(hpOf s m).lv (SW.pa (.way c)))=true:=by
       rw[show SW.pa (.way c)=c from rfl,h.lvB C];rfl
      rw[E]
      have V:=yrp (f:=λj=>(σ.mg c (j:Nat)).at a n) (n:=s.m.toNat) (j:=j.toNat) (λ_ _=>MW.eT _ _ _) (by omega)
      have X:(σ.mg c (j.toNat:Nat)).at a n=1:=by
       rw[show ((j.toNat:Nat):Int)=j by omega,h4]
       show (if (a:Int)=a then(if (n:Int)=n then 1 else 0) else 0)=(1:Int)
       simp
      rw[X]at V
      refine⟨rfl,rfl,?_⟩
      show zA k<=_
      omega
  obtain⟨k1,k2,k3⟩:=key (mA k).toNat (by omega);refine⟨k1,k2,?_⟩
  have:∀q N:Nat,sq (λi=>sq (λj=>(σ.mg c (j:Nat)).at a i) s.m.toNat) N<=sq (λi=>sq (λj=>(σ.mg c (j:Nat)).at a i) s.m.toNat) (N+q):=by
   intro q N
   induction q with
   |zero=>exact Int.le_refl _
   |succ q R=>
    have h8:=D (N+q)
    have y:sq (λi=>sq (λj=>(σ.mg c (j:Nat)).at a i) s.m.toNat) (N+(q+1))=sq (λi=>sq (λj=>(σ.mg c (j:Nat)).at a i) s.m.toNat) (N+q)+sq (λj=>(σ.mg c (j:Nat)).at a (N+q)) s.m.toNat:=rfl
    omega
  have Y:=this (16-(mA k).toNat) (mA k).toNat;rw[show (mA k).toNat+(16-(mA k).toNat)=16 by omega]at Y;omega
theorem ym3(q:Rep s m σ)(z:GI s σ)(h:Last s σ c):(hpOf s m).count.t=0/\(hpOf s m).count.o=0/\(hpOf s m).count.l<=32*s.m/\(hpOf s m).count.f=s.p*64-(hpOf s m).count.l/\0<=(hpOf s m).count.l:=by
 have hb:=q.fi.bd;unfold Hp.count;rw[jP (YK q)];have b:(hpOf s m).p=s.p:=rfl;rw[b]
 have key:∀n:Nat,(n:Int)<=s.p->((hpOf s m).cn n).t=0/\((hpOf s m).cn n).o=0/\((hpOf s m).cn n).l<=32*sq (λp=>sq (λi=>sq (λj=>(σ.mg c (j:Nat)).at p i) s.m.toNat) 16) n:=by
  intro n
  induction n with
  |zero=>intro _;exact⟨rfl,rfl,Int.le_refl _⟩
  |succ n B=>
   intro F
   obtain⟨G,H,I⟩:=B (by omega)
   obtain⟨J,L,M⟩:=ypi q z h (a:=n) (by omega)
   have r:(hpOf s m).cn (n+1)=((hpOf s m).cn n).add ((hpOf s m).pgC n):=rfl
   have y:sq (λp=>sq (λi=>sq (λj=>(σ.mg c (j:Nat)).at p i) s.m.toNat) 16) (n+1)=sq (λp=>sq (λi=>sq (λj=>(σ.mg c (j:Nat)).at p i) s.m.toNat) 16) n+sq (λi=>sq (λj=>(σ.mg c (j:Nat)).at n i) s.m.toNat) 16:=rfl
   rw[r,y]
   unfold Cn.add
   dsimp only
   exact⟨by omega,by omega,by omega⟩
 obtain⟨k1,C,N⟩:=key s.p.toNat (by omega);have O:=yo9 (λj=>σ.mg c (j:Nat)) s.p.toNat s.m.toNat;have D:=(hpOf s m).SQ s.p.toNat;have E:=((hpOf s m).jR s.p.toNat).2.2.1;unfold Cn.sum at D;refine⟨k1,C,by omega,by omega,E⟩
end

end Go.Proofs.YtkilokkopbajkaaGreat
