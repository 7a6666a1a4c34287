
import Derived.Test.YtkilokkopbajkaaGreatRows

import Derived.Handy

import Derived.WalkSpells

import Derived.Lib.Hide

import Derived.Laws.CopyOwn

import Derived.WalkLawsBesides

import Derived.Deep.QuietTactic

import Derived.BigQuiet

import Derived.RegionTactic

import Derived.Deep.RegionHeld3

import Derived.Deep.DeepCutAuto

import Derived.Deep.AppendLies

import Derived.Deep.RegionLaw

import Derived.Maps.AppendAt

import Derived.Deep.Draws

import Derived.StillTail

import Derived.ProofKit

import Derived.OpenShut

import Derived.SizedLaws

import Derived.ChangeSlices

import Derived.Laws.FloatArith

import Derived.Laws.Externs

import Derived.IntWalk

set_option linter.all false
namespace Go.Proofs.YtkilokkopbajkaaGreat

open RowKit
instance:Coe Int Value:=⟨.int .i64⟩
instance:Coe Bool Value:=⟨.bool⟩
instance:Coe Nat Value:=⟨λx=>.int .i64 x⟩
instance (x:Nat):CoeDep (Option Nat) (some x) Value:=⟨.pointer (some ⟨x,0,.none⟩)⟩
theorem AE{k:IntKind}{a b:Int}(h:a=b):Ending.returned (.int k a)=Ending.returned (.int k b):=by rw[h]
theorem RG{a b:Bool}(h:a=b):Ending.returned (.bool a)=Ending.returned (.bool b):=by rw[h]
theorem ycx{p q:Bool}(h:p=true↔q=true):(p==q)=true:=by cases p<;>cases q<;>simp_all
theorem GG{w:World}{b o:Nat}{v:Value}(h:w.cell? ⟨b,o,.none⟩=some v):b<w.heap.size:=by
 rcases Nat.lt_or_ge b w.heap.size with f|f
 .exact f
 simp[World.cell?,Array.getElem?_eq_none f]at h
theorem ci{w:World}{p:Addr}(n:Int)(h:w.cell? p=some (.int .i64 n)):w.cell? p=some (.int .i64 n):=h
theorem ce{w:World}{p:Addr}(v:Value)(h:w.cell? p=some v):w.cell? p=some v:=h
theorem ci3{w:World}{q:Nat}(a b c:Int){t:List Value}(f:∀i,w.cell? ⟨q,i,.none⟩=(Array.mk (.int .i64 a:: .int .i64 b:: .int .i64 c::t))[i]?):w.cell? ⟨q,0,.none⟩=some (.int .i64 a)/\w.cell? ⟨q,1,.none⟩=some (.int .i64 b)/\w.cell? ⟨q,2,.none⟩=some (.int .i64 c):=⟨f 0,f 1,f 2⟩
theorem ci4{w:World}{q:Nat}(a b c d:Int){t:List Value}(f:∀i,w.cell? ⟨q,i,.none⟩=(Array.mk (.int .i64 a:: .int .i64 b:: .int .i64 c:: .int .i64 d::t))[i]?):w.cell? ⟨q,0,.none⟩=some (.int .i64 a)/\w.cell? ⟨q,1,.none⟩=some (.int .i64 b)/\w.cell? ⟨q,2,.none⟩=some (.int .i64 c)/\w.cell? ⟨q,3,.none⟩=some (.int .i64 d):=⟨f 0,f 1,f 2,f 3⟩
theorem ci5{w:World}{q:Nat}(a b c d e:Int){t:List Value}(f:∀i,w.cell? ⟨q,i,.none⟩=(Array.mk (.int .i64 a:: .int .i64 b:: .int .i64 c:: .int .i64 d:: .int .i64 e::t))[i]?):w.cell? ⟨q,0,.none⟩=some (.int .i64 a)/\w.cell? ⟨q,1,.none⟩=some (.int .i64 b)/\w.cell? ⟨q,2,.none⟩=some (.int .i64 c)/\w.cell? ⟨q,3,.none⟩=some (.int .i64 d)/\w.cell? ⟨q,4,.none⟩=some (.int .i64 e):=⟨f 0,f 1,f 2,f 3,f 4⟩
theorem ci6{w:World}{q:Nat}(a b c d e f:Int){t:List Value}(j:∀i,w.cell? ⟨q,i,.none⟩=(Array.mk (.int .i64 a:: .int .i64 b:: .int .i64 c:: .int .i64 d:: .int .i64 e:: .int .i64 f::t))[i]?):w.cell? ⟨q,0,.none⟩=some (.int .i64 a)/\w.cell? ⟨q,1,.none⟩=some (.int .i64 b)/\w.cell? ⟨q,2,.none⟩=some (.int .i64 c)/\w.cell? ⟨q,3,.none⟩=some (.int .i64 d)/\w.cell? ⟨q,4,.none⟩=some (.int .i64 e)/\w.cell? ⟨q,5,.none⟩=some (.int .i64 f):=⟨j 0,j 1,j 2,j 3,j 4,j 5⟩
theorem ci7{w:World}{q:Nat}(a b c d e f g:Int){t:List Value}(j:∀i,w.cell? ⟨q,i,.none⟩=(Array.mk (.int .i64 a:: .int .i64 b:: .int .i64 c:: .int .i64 d:: .int .i64 e:: .int .i64 f:: .int .i64 g::t))[i]?):w.cell? ⟨q,0,.none⟩=some (.int .i64 a)/\w.cell? ⟨q,1,.none⟩=some (.int .i64 b)/\w.cell? ⟨q,2,.none⟩=some (.int .i64 c)/\w.cell? ⟨q,3,.none⟩=some (.int .i64 d)/\w.cell? ⟨q,4,.none⟩=some (.int .i64 e)/\w.cell? ⟨q,5,.none⟩=some (.int .i64 f)/\w.cell? ⟨q,6,.none⟩=some (.int .i64 g):=⟨j 0,j 1,j 2,j 3,j 4,j 5,j 6⟩
theorem ci8{w:World}{q:Nat}(a b c d e f g h:Int){t:List Value}(j:∀i,w.cell? ⟨q,i,.none⟩=(Array.mk (.int .i64 a:: .int .i64 b:: .int .i64 c:: .int .i64 d:: .int .i64 e:: .int .i64 f:: .int .i64 g:: .int .i64 h::t))[i]?):w.cell? ⟨q,0,.none⟩=some (.int .i64 a)/\w.cell? ⟨q,1,.none⟩=some (.int .i64 b)/\w.cell? ⟨q,2,.none⟩=some (.int .i64 c)/\w.cell? ⟨q,3,.none⟩=some (.int .i64 d)/\w.cell? ⟨q,4,.none⟩=some (.int .i64 e)/\w.cell? ⟨q,5,.none⟩=some (.int .i64 f)/\w.cell? ⟨q,6,.none⟩=some (.int .i64 g)/\w.cell? ⟨q,7,.none⟩=some (.int .i64 h):=⟨j 0,j 1,j 2,j 3,j 4,j 5,j 6,j 7⟩
theorem hd'{p:Prop}(h:p):Hid p:=h
theorem hidv{b:Sort _}(a:b):∃x,Hid (x=a)/\x=a:=⟨a,hd' rfl,rfl⟩
theorem lr{n:Nat}:n<=n:=Nat.le_refl n
theorem br{B:Nat}{w:World}:Below B w w:=Below.refl _ _
theorem wrp(n:Int)(h: -9223372036854775808<=n:=by omega)(k:n<=9223372036854775807:=by omega):IntKind.i64.wrap n=n:=IntWalk.i64_in n ⟨h,k⟩
theorem jN{c:Prop}{d:Decidable c}(h:¬c){α:Sort _}{t e:α}:@ite α c d t e=e:=if_neg h
theorem jP{c:Prop}{d:Decidable c}(h:c){α:Sort _}{t e:α}:@ite α c d t e=t:=if_pos h
theorem jB:∀b:Bool,b=true\/b=false:=Bool.eq_false_or_eq_true
theorem jA (w:World) (o:Obj):(w.alloc o).heap[w.heap.size]?=some o:=heap_alloc_new w o
theorem jE{α:Type _}{xs:Array α}{i:Nat}{b:α}(h:xs[i]?=some b):i<xs.size:=(Array.getElem?_eq_some_iff.1 h).1
theorem jC (a b:Bool):((a&&b)=true)=(a=true/\b=true):=Bool.and_eq_true a b
theorem jF{p:Prop}[Decidable p](h:¬p):decide p=false:=decide_eq_false h
theorem jT{p:Prop}[Decidable p](h:p):decide p=true:=decide_eq_true h
abbrev jK:=Calls Tryz.prog
abbrev jW (w w':World):Prop:=Below w.heap.size w w'
instance{α:Sort _}{p:α->Prop}:CoeFun (Hid (∀x,p x)) (λ_=>∀x,p x):=⟨Hid.out⟩
theorem kA{w w':World}(hb:Below w.heap.size w w'):∀b o v,w.cell? ⟨b,o,.none⟩=some v->w'.cell? ⟨b,o,.none⟩=some v:=
 λb o v h=>by rw[hb.cell (GG h)];exact h
theorem yff{B:Nat}{w a b:World}(f:w.heap.size=B)(h:Below B w a)(hb:Below a.heap.size a b):Below B w b:=
 h.trans (hb.mono (by have:=h.size;omega))
theorem qA{w a b:World}(h:Below w.heap.size w a)(hb:Below a.heap.size a b):Below w.heap.size w b:=
 h.trans (hb.mono h.size)
theorem iB{W f:World}(hb:Below W.heap.size W f):∀b o,b<W.heap.size->f.cell? ⟨b,o,.none⟩=W.cell? ⟨b,o,.none⟩:=λb o h=>hb.cell (p:=⟨b,o,.none⟩) h
theorem XA{W f:World}(hb:Below W.heap.size W f):∀b o,b<W.heap.size->f.frozen? ⟨b,o,.none⟩=W.frozen? ⟨b,o,.none⟩:=λb o h=>hb.frozen (p:=⟨b,o,.none⟩) h
theorem iA{w:World}{b:Nat}{cs:Array Value}{t:TypeId}(h:w.heap[b]?=some (.cells cs t (0,0))):∀i,w.cell? ⟨b,i,.none⟩=cs[i]?:=λi=>cell_of_row w b i cs t (0,0) h
theorem KA{w:World}{b:Nat}{cs:Array Value}{t:TypeId}(h:w.heap[b]?=some (.cells cs t (0,0))):∀i,w.frozen? ⟨b,i,.none⟩=false:=λi=>by simp[World.frozen?,h]
theorem vE(w:World)(a b:Obj):((w.alloc a).alloc b).heap[w.heap.size]?=some a/\((w.alloc a).alloc b).heap[w.heap.size+1]?=some b/\((w.alloc a).alloc b).heap.size=w.heap.size+2/\Below w.heap.size w ((w.alloc a).alloc b):=by
 refine⟨?_,?_,by simp,by go_grown⟩
 .rw[Below.heap_alloc _ _ _ (by simp)];exact jA w a
 have:=jA (w.alloc a) b;simpa using this
theorem SL(w:World)(a b c:Obj):(((w.alloc a).alloc b).alloc c).heap[w.heap.size]?=some a/\(((w.alloc a).alloc b).alloc c).heap[w.heap.size+1]?=some b/\(((w.alloc a).alloc b).alloc c).heap[w.heap.size+1+1]?=some c/\(((w.alloc a).alloc b).alloc c).heap.size=w.heap.size+3/\Below w.heap.size w (((w.alloc a).alloc b).alloc c):=by
 obtain⟨h1,h2,h3,h4⟩:=vE w a b;refine⟨?_,?_,?_,by simp,by go_grown⟩
 .rw[Below.heap_alloc _ _ _ (by omega)];exact h1
 .rw[Below.heap_alloc _ _ _ (by omega)];exact h2
 have:=jA ((w.alloc a).alloc b) c;rw[h3]at this;exact this
def Ext (w:World):={w':World // Below w.heap.size w w'}
def Ext.w {w:World} (e:Ext w):World:=e.val
instance Ext.there {w:World}:Nonempty (Ext w):=⟨⟨w,Below.refl _ _⟩⟩
theorem Ext.below{w:World}(e:Ext w):Below w.heap.size w e.w:=e.property
@[go_sem,simp] theorem Ext.cell {w : World} (e : Ext w) (b o : Nat) (h : b<w.heap.size) : e.w.cell? ⟨b,o,.none⟩=w.cell? ⟨b,o,.none⟩ := e.below.cell (p := ⟨b,o,.none⟩) h
@[go_sem,simp] theorem Ext.frozen {w : World} (e : Ext w) (b o : Nat) (h : b<w.heap.size) : e.w.frozen? ⟨b,o,.none⟩=w.frozen? ⟨b,o,.none⟩ := e.below.frozen (p := ⟨b,o,.none⟩) h
theorem zaj{P:Program}{j:Nat}{Q:Exit->Act->World->Prop}{a:Act}{w:World}{l:List Oper}(i:P.follows .mixedOrders=true)(f:Region.lexB .any l.toArray=true)(h:wpQuiet P l.toArray (λw'=>∃e:Ext w,w'=e.w) (λb=>∀w',(∃e:Ext w,w'=e.w)->Q .normal b w') l a):(Code.region j l.toArray true).wp P Q a w:=
 wp_region_quiet (C:=λw'=>∃e:Ext w,w'=e.w) i f ⟨⟨_,br.drew⟩,rfl⟩ (by simpa using h)
theorem wre{P:Program}{j:Nat}{Q:Exit->Act->World->Prop}{a:Act}{w:World}{l:List Oper}(h:wpQuiet P l.toArray (λw'=>∃e:Ext w,w'=e.w) (λb=>∀w',(∃e:Ext w,w'=e.w)->Q .normal b w') l a)(i:P.follows .mixedOrders=true:=by kernel_rfl)(f:Region.lexB .any l.toArray=true:=by kernel_rfl):(Code.region j l.toArray true).wp P Q a w:=
 zaj i f h
theorem wqn{P:Program}{ops:Array Oper}{C:World->Prop}{w:World}{R:Act->World->Prop}{a:Act}(h:∀W,jW w W->R a W):wpQuiet P ops C (λb=>∀w',(∃e:Ext w,w'=e.w)->R b w') [] a:=
 λ_ ⟨e,f⟩=>f▸h _ e.below
theorem AA{P:Program}{f:FuncId}{args:Array Value}{w:World}{e:Ext w}{v:Value}(h:Calls P f args e.w λr b=>r=.returned v/\Below e.w.heap.size e.w b):Calls P f args e.w λr b=>r=.returned v/\∃i:Ext w,b=i.w:=
 h.mono λ_ b ⟨j,hb⟩=>⟨j,⟨b,qA e.below hb⟩,rfl⟩
theorem yG{P:Program}{f:FuncId}{args:Array Value}{w:World}{e:Ext w}{v:Value}(h:Calls P f args e.w λr b=>r=.returned v/\b=e.w):Calls P f args e.w λr b=>r=.returned v/\∃i:Ext w,b=i.w:=
 h.mono λ_ _ ⟨j,hb⟩=>⟨j,e,hb⟩
theorem sQ(b o n:Nat):(⟨b,o,.none⟩:Addr).add n=⟨b,o+n,.none⟩:=by
 unfold Addr.add;split<;>simp_all
def RdS (w:World) (sz:Nat) (v:Value) (n:Nat) (cs:List Value):Prop:=∃ao cap,v=.slice ao n cap/\n<=cap/\(cap:Int)<=9223372036854775807/\cs.length=n*sz/\
 (n≠0->∃b off,ao=some ⟨b,off,.none⟩/\b<w.heap.size/\∀i,i<n*sz->w.cell? ⟨b,off+i,.none⟩=cs[i]?)
def cutV (a:Option Addr) (l h m s:Nat):Value:=sliced a l h m s
section

variable {w w':World}{sz n:Nat}{v:Value}{cs:List Value}

theorem RdS.keep(h:RdS w sz v n cs)(hs:w.heap.size<=w'.heap.size)(f:∀b o,b<w.heap.size->w'.cell? ⟨b,o,.none⟩=w.cell? ⟨b,o,.none⟩):RdS w' sz v n cs:=
 let ⟨ao,cap,e,h1,h2,h3,h4⟩:=h
 ⟨ao,cap,e,h1,h2,h3,λj=>let ⟨b,off,ea,hlt,hc⟩:=h4 j;⟨b,off,ea,Nat.lt_of_lt_of_le hlt hs,λi hi=>(f b _ hlt).trans (hc i hi)⟩⟩
theorem RdS.below(h:RdS w sz v n cs)(hb:Below w.heap.size w w'):RdS w' sz v n cs:=h.keep hb.size λb o f=>hb.cell (p:=⟨b,o,.none⟩) f
theorem RdS.drew(h:RdS w sz v n cs):RdS w.drew sz v n cs:=h
theorem RdS.drewN(h:RdS w sz v n cs)(k:Nat):RdS (w.drewN k) sz v n cs:=h
theorem RdS.alloc(h:RdS w sz v n cs)(o:Obj):RdS (w.alloc o) sz v n cs:=h.below (br.alloc lr o)
theorem RdS.lD{base:Nat}{e:TypeId}(h:w.ownsRow base e sz v n cs):RdS w sz v n cs:=by
 rcases h.2 with⟨h1,h2⟩|⟨g,cap,b,rfl,h1,h2,h3,h4,j,f⟩
 .subst h2;exact⟨none,0,h1,Nat.le_refl _,by omega,h.1,λh=>absurd rfl h⟩
 refine⟨_,cap,rfl,h3,by simp only[maxLen]at h4;omega,h.1,λ_=>⟨g,0,rfl,(jE h2),λi hi=>?_⟩⟩;rw[cell_of_row w g _ b e (0,0) h2,<- f,List.getElem?_take,jP hi];simp
theorem RdS.cut{ao:Option Addr}{cap l h:Nat}(r:RdS w sz (.slice ao n cap) n cs)(y:l<=h)(s:h<=n):RdS w sz (cutV ao l h cap sz) (h-l) ((cs.drop (l*sz)).take ((h-l)*sz)):=by
 obtain⟨o,m,e,h1,h2,h3,h4⟩:=r;injection e with p _ q;subst p q;refine⟨_,_,rfl,by omega,by omega,?_,λB=>?_⟩
 .rw[List.length_take,List.length_drop,h3,<- Nat.sub_mul];exact Nat.min_eq_left (Nat.mul_le_mul_right _ (by omega))
 obtain⟨b,j,rfl,f,hc⟩:=h4 (by omega);rw[jN (by omega)];refine⟨b,j+l*sz,by show some (Addr.add _ _)=_;rw[sQ],f,λi hi=>?_⟩;rw[List.getElem?_take,jP hi,List.getElem?_drop,Nat.add_assoc];have z:(h-l)*sz+l*sz<=n*sz:=by rw[<-Nat.add_mul];exact Nat.mul_le_mul_right _ (by omega)
 exact hc _ (by omega)
theorem own_at{base:Nat}{e:TypeId}{g cap:Nat}{n:Nat}(h:w.ownsRow base e sz (.slice (some ⟨g,0,.none⟩) n cap) n cs):base<=g/\g<w.heap.size:=by
 rcases h.2 with⟨h1,_⟩|⟨j,f,i,b,h1,h2,_⟩
 .cases h1
 injection b with b;injection b with b;injection b with b;subst b;exact⟨h1,(jE h2)⟩
end

section

variable {P:Program}{w:World} (t:TypeId) (a:Option Addr) (len cap:Nat) (ht:P.underlying t=some (.slice (P.elem t)))

include ht

theorem YU(kl:IntKind)(l:Int)(h0:0<=l)(h1:l<=len):(Instr.slice t (.slice a len cap) (some (.int kl l)) none none).run P w=((sizeOf (P.elem t)).run P w).andThen λs w=>.ok (cutV a l.toNat len cap s) w:=run_slice_l w t a len cap ht kl l h0 h1
theorem cV(b:IntKind)(h:Int)(h0:0<=h)(h2:h<=cap):(Instr.slice t (.slice a len cap) none (some (.int b h)) none).run P w=((sizeOf (P.elem t)).run P w).andThen λs w=>.ok (cutV a 0 h.toNat cap s) w:=run_slice_h w t a len cap ht b h h0 h2
theorem NU(kl b:IntKind)(l h:Int)(h0:0<=l)(h1:l<=h)(h2:h<=cap):(Instr.slice t (.slice a len cap) (some (.int kl l)) (some (.int b h)) none).run P w=((sizeOf (P.elem t)).run P w).andThen λs w=>.ok (cutV a l.toNat h.toNat cap s) w:=run_slice_lh w t a len cap ht kl b l h h0 h1 h2
theorem z9r:(Instr.slice t (.slice a len cap) none none none).run P w=((sizeOf (P.elem t)).run P w).andThen λs w=>.ok (cutV a 0 len cap s) w:=run_slice_all w t a len cap ht
end

section

variable {P:Program} (w:World)

theorem zn4(base:Nat)(t l e:TypeId)(i:TypeInfo)(size:Nat)(ht:P.underlying t=some (.slice e))(hi:P.info? e=some i)(v:Value) (n:Nat) (xs:List Value) (b:w.ownsRow base e size v n xs) (ao:Option Addr) (c:Nat):(Builtin.append_ #[t,t] l #[v,.slice ao 0 c]).run P w=.ok v w:=by
 rcases b.2 with⟨rfl,rfl⟩|⟨g,cap,j,rfl,_,_,f,_⟩
 .cases ao<;>simp[Builtin.append_,run_underlying ht,sizeOf,typeInfo,hi,Builtin.lenOf,Builtin.firstCells,loadCells,loadCellsFrom]
 cases ao<;>simp[Builtin.append_,run_underlying ht,sizeOf,typeInfo,hi,Builtin.lenOf,Builtin.firstCells,f,storeCells,loadCells,loadCellsFrom]
theorem bW(base:Nat)(t I e:TypeId)(i:TypeInfo)(z:Value)(size f:Nat)(ht:P.underlying t=some (.slice e))(hi:P.info? e=some i)(S:i.zero=some z)(q:i.size=size) (B:i.bytes=f) (F:z.cells.size=size) (E:0<size)(v:Value) (n:Nat) (xs:List Value) (l:w.ownsRow base e size v n xs)(u:Value) (m:Nat) (news:List Value) (R:RdS w size u m news) (h1:∀u∈news,u.oneCell'=true)(y:n+m<=maxLen) (o:(n+m)*f<=140737488355328) (p:base<=w.heap.size):
  ∃v' w',(Builtin.append_ #[t,t] I #[v,u]).run P w=.ok v' w'/\w'.ownsRow base e size v' (n+m) (xs++news)/\w.grownBy w' v.ownBlock/\
   (v'.ownBlock=v.ownBlock\/v'.ownBlock=some w.heap.size):=by
 obtain⟨ao,cap,rfl,M,N,J,r⟩:=R;rcases Nat.eq_zero_or_pos m with h0|h0
 .subst h0;have O:news=[]:=List.eq_nil_of_length_eq_zero (by simpa using J);subst O;exact⟨v,w,zn4 w base t I e i size ht hi v n xs l ao cap,by simpa using l,World.grownBy.refl w _,.inl rfl⟩
 obtain⟨b,G,rfl,_,D⟩:=r (by omega)
 obtain⟨v',w',s,h2,h3,_,L⟩:=run_append_own_at (P:=P) w base t I e i z size f ht hi S q B F E v n xs l ⟨b,G,.none⟩ m cap news J
  (λj u hu=>by rw[sQ];rw[<-hu];exact D j (by have:=(List.getElem?_eq_some_iff.1 hu).1;omega)) h1 y o p
 exact⟨v',w',s,h2,h3,L⟩
variable {w}

theorem IU{o:Oper}{a:Act}{K:Act->World->Prop}{Q:Exit->Act->World->Prop}(s x:Operand)(t:TypeId)(E:o.op=.call {callee:=.builtin .append,args:=#[s,x],argTypes:=#[t,t]})(base:Nat) (e:TypeId) (i:TypeInfo) (z:Value) (size b:Nat) (ht:P.underlying t=some (.slice e)) (hi:P.info? e=some i) (I:i.zero=some z)(l:i.size=size) (y:i.bytes=b) (D:z.cells.size=size) (B:0<size)(v:Value) (n:Nat) (xs:List Value) (hs:a.eval s=v) (p:w.ownsRow base e size v n xs)(u:Value) (m:Nat) (news:List Value) (G:a.eval x=u) (F:RdS w size u m news) (h1:∀u∈news,u.oneCell'=true)(r:n+m<=maxLen) (f:(n+m)*b<=140737488355328) (j:base<=w.heap.size)(h:∀v' w',w'.ownsRow base e size v' (n+m) (xs++news)->w.grownBy w' v.ownBlock->(v'.ownBlock=v.ownBlock\/v'.ownBlock=some w.heap.size)->K (a.put o.dst v') w'):o.wp P a w K Q:=by
 obtain⟨v',w',q,h2,h3,h4⟩:=bW (P:=P) w base t o.type e i z size b ht hi I l y D B v n xs p u m news F h1 r f j;unfold Oper.wp execOp;simp only[E,resolve,invoke,builtin,Sem.run_bind,Sem.run_pure,Result.andThen_ok,List.map_toArray,List.map_cons,List.map_nil,hs,G,q];exact h v' w' h2 h3 h4
theorem nH{ops:Array Oper}{rest:List Oper}{o:Oper}{a:Act}{Q:Exit->Act->World->Prop}(y:o.guard=none)(s x:Operand)(t:TypeId)(F:o.op=.call {callee:=.builtin .append,args:=#[s,x],argTypes:=#[t,t]})(base:Nat) (e:TypeId) (i:TypeInfo) (z:Value) (size b:Nat) (ht:P.underlying t=some (.slice e)) (hi:P.info? e=some i) (J:i.zero=some z)(l:i.size=size) (r:i.bytes=b) (D:z.cells.size=size) (B:0<size)(v:Value) (n:Nat) (xs:List Value) (hs:a.eval s=v) (p:w.ownsRow base e size v n xs)(u:Value) (m:Nat) (news:List Value) (I:a.eval x=u) (G:RdS w size u m news) (h1:∀u∈news,u.oneCell'=true)(q:n+m<=maxLen) (f:(n+m)*b<=140737488355328) (j:base<=w.heap.size)(h:∀v' w',w'.ownsRow base e size v' (n+m) (xs++news)->w.grownBy w' v.ownBlock->(v'.ownBlock=v.ownBlock\/v'.ownBlock=some w.heap.size)->wpList P ops Q rest (a.put o.dst v') w'):wpList P ops Q (o::rest) a w:=
 wpList_plain y λ_ E=>IU s x t F base e i z size b ht hi J l r D B v n xs hs p u m news I G h1 q f j λv' w' h2 h3 h4=>E _ _ (h v' w' h2 h3 h4)
theorem sG{ops:Array Oper}{o:Oper}{a:Act}{K:Act->World->Prop}{Q:Exit->Act->World->Prop}{E:Prop}(y:o.guard=none)(s x:Operand)(t:TypeId)(F:o.op=.call {callee:=.builtin .append,args:=#[s,x],argTypes:=#[t,t]})(base:Nat) (e:TypeId) (i:TypeInfo) (z:Value) (size b:Nat) (ht:P.underlying t=some (.slice e)) (hi:P.info? e=some i) (L:i.zero=some z)(l:i.size=size) (r:i.bytes=b) (D:z.cells.size=size) (B:0<size)(v:Value) (n:Nat) (xs:List Value) (hs:a.eval s=v) (p:w.ownsRow base e size v n xs)(u:Value) (m:Nat) (news:List Value) (J:a.eval x=u) (G:RdS w size u m news) (h1:∀u∈news,u.oneCell'=true)(q:n+m<=maxLen) (f:(n+m)*b<=140737488355328) (j:base<=w.heap.size)(h:∀v' w',w'.ownsRow base e size v' (n+m) (xs++news)->w.grownBy w' v.ownBlock->(v'.ownBlock=v.ownBlock\/v'.ownBlock=some w.heap.size)->K (a.put o.dst v') w'):
  if Region.wanted o (yielded ops a.tmps)=true then Oper.wp P o a w K Q else E:=by
 have I:Region.wanted o (yielded ops a.tmps)=true:=by simp[Region.wanted,y]
 rw[jP I];exact IU s x t F base e i z size b ht hi L l r D B v n xs hs p u m news J G h1 q f j h
end

theorem RdS.new{w:World}{g:Nat}{cs:Array Value}{t:TypeId}{sz n:Nat}(b:w.heap[g]?=some (.cells cs t (0,0)))(f:cs.size=n*sz)(j:(n:Int)<=9223372036854775807):RdS w sz (.slice (some ⟨g,0,.none⟩) n n) n cs.toList:=by
 refine⟨_,n,rfl,Nat.le_refl _,j,by simpa using f,λ_=>⟨g,0,rfl,(jE b),λi hi=>?_⟩⟩;rw[cell_of_row w g _ cs t (0,0) b];simp
theorem sE{E:TypeId}{B sz:Nat}{a w w':World}{v:Value}{n:Nat}{xs:List Value}(h:Below B a w)(f:w.ownsRow B E sz v n xs)(i:B<=w.heap.size)(b:w.grownBy w' v.ownBlock):Below B a w':=
 h.trans ⟨b.os,b.tape,b.output,b.size,λk j=>b.block k (by omega) (λe=>by have:=(f.lt k e.symm).1;omega)⟩
structure Only (F:Nat->Prop) (w w':World):Prop where
 os:w'.os=w.os
 tape:w'.tape=w.tape
 output:w'.output=w.output
 size:w.heap.size<=w'.heap.size
 block:∀k,k<w.heap.size->¬F k->w'.heap[k]?=w.heap[k]?
theorem Only.refl(F:Nat->Prop)(w:World):Only F w w:=⟨rfl,rfl,rfl,Nat.le_refl _,λ_ _ _=>rfl⟩
theorem Only.of_below{F:Nat->Prop}{w w':World}(h:Below w.heap.size w w'):Only F w w':=⟨h.os,h.tape,h.output,h.size,λk b _=>h.block k b⟩
theorem Only.below{F:Nat->Prop}{w w':World}{B:Nat}(h:Only F w w')(i:B<=w.heap.size)(b:∀k,F k->B<=k):Below B w w':=
 ⟨h.os,h.tape,h.output,h.size,λk j=>h.block k (by omega) (λf=>by have:=b k f;omega)⟩
theorem Only.trans{F G:Nat->Prop}{a b c:World}(h:Only F a b)(k:Only G b c)(j:∀i,i<a.heap.size->G i->F i):Only F a c:=
 ⟨k.os.trans h.os,k.tape.trans h.tape,k.output.trans h.output,Nat.le_trans h.size k.size,λi hi f=>(k.block i (by have:=h.size;omega) (λl=>f (j i hi l))).trans (h.block i hi f)⟩
theorem Only.tb{F:Nat->Prop}{a b c:World}(h:Only F a b)(k:Below b.heap.size b c):Only F a c:=Only.trans h (Only.of_below (F:=λ_=>False) k) λ_ _ e=>e.elim
theorem Only.setCell{F:Nat->Prop}{a w:World}(h:Only F a w){p:Addr}(b:F p.block\/a.heap.size<=p.block)(u:Value):Only F a (w.setCell p u):=
 ⟨h.os,h.tape,h.output,by simpa[World.setCell] using h.size,λk i f=>(Below.heap_setCell w p u k (λe=>by rcases b with b|b;exact f (e▸b);omega)).trans (h.block k i f)⟩
theorem Only.alloc{F:Nat->Prop}{a w:World}(h:Only F a w)(o:Obj):Only F a (w.alloc o):=
 ⟨h.os,h.tape,h.output,by have:=h.size;simp;omega,λk f b=>(Below.heap_alloc w o k (by have:=h.size;omega)).trans (h.block k f b)⟩
theorem Only.drew{F:Nat->Prop}{a w:World}(h:Only F a w):Only F a w.drew:=⟨h.os,h.tape,h.output,h.size,h.block⟩
theorem Only.drewN{F:Nat->Prop}{a w:World}(h:Only F a w)(n:Nat):Only F a (w.drewN n):=⟨h.os,h.tape,h.output,h.size,h.block⟩
theorem Only.grown{F:Nat->Prop}{a w w':World}{row:Option Nat}(h:Only F a w)(b:w.grownBy w' row)(l:∀k,row=some k->F k\/a.heap.size<=k):Only F a w':=
 ⟨b.os.trans h.os,b.tape.trans h.tape,b.output.trans h.output,Nat.le_trans h.size b.size,λk j i=>(b.block k (by have:=h.size;omega) (λe=>by rcases l k e.symm with f|f;exact i f;omega)).trans (h.block k j i)⟩
theorem oC{w w':World}{B:Nat}{E:TypeId}{size:Nat}{v:Value}{n:Nat}{xs:List Value}(h:w.ownsRow B E size v n xs)(hb:∀k,v.ownBlock=some k->w'.heap[k]?=w.heap[k]?):w'.ownsRow B E size v n xs:=by
 refine⟨h.1,?_⟩;rcases h.2 with f|⟨g,cap,b,rfl,h1,h2,r⟩
 .exact .inl f
 exact .inr ⟨g,cap,b,rfl,h1,by rw[hb g rfl];exact h2,r⟩
def foot (s:Nat) (sl:Value):Nat->Prop:=λk=>k=s\/sl.ownBlock=some k
section

variable {P:Program}{ops:Array Oper}{md:Region.Mode}{C:World->Prop}

def IJ (P:Program) (md:Region.Mode) (ops:Array Oper) (C:World->Prop) (n:Nat) (L:Array Bool->Act->Prop):Nat->Array Bool->Act->Prop
 | 0,listed,a=>L listed a
 |f+1,listed,a=>Region.ready md ops listed≠ []/\∀i∈Region.ready md ops listed,i<n/\qOp P ops C i (IJ P md ops C n L f (listed.setIfInBounds i true)) a
theorem z3r{n g:Nat}{L:Array Bool->Act->Prop}{Q':Exit->Act->World->Prop}(o:∀listed a w,C w->L listed a->wpAny P md ops Q' g listed a w)(f:Nat):
  ∀(listed:Array Bool) (a:Act) (w:World),C w->IJ P md ops C n L f listed a->wpAny P md ops Q' (f+g) listed a w:=by
 induction f with
 |zero=>intro listed a w b h;rw[Nat.zero_add];exact o _ _ _ b h;|succ f p=>intro listed a w b h;rw[show f+1+g=(f+g)+1 by omega];exact⟨λh0=>absurd h0 h.1,λi hi=>wpOp_of_qOp b (λl w' j m=>p _ l w' j m) (h.2 i hi).2⟩
theorem zvv{n i:Nat}{J:Oper}{v:Value}{L:Array Bool->Act->Prop}(hi:ops[i]?=some J)(y:∀(j:Nat) (o:Oper) cs b,ops[j]?=some o->o.op≠.select cs b)(hs:Region.sinkB md ops n=true) (hc:Region.chainB md ops n=true) (X:n<ops.size) (O:i<n)(z:∀listed a,L listed a->∀j∈Region.ready md ops listed,n<=j) (f:Nat):
  ∀(listed:Array Bool) (a:Act),HeadInv md ops n listed->
   (∀j D,ops[j]?=some D->j≠i->listed.getD j true=false->(∀e∈D.after,Region.binds md e=true->e.on≠i)->J.apart ops D=true)->
   i∈Region.ready md ops listed->YieldsIn P ops C J v a->IJ P md ops C n L f (listed.setIfInBounds i true) (a.put J.dst v)->IJ P md ops C n L (f+1) listed a:=by
 have small:∀listed:Array Bool,HeadInv md ops n listed->i∈Region.ready md ops listed->∀j∈Region.ready md ops listed,j<n:=λlisted inv p j q=>by
  rcases Nat.lt_or_ge j n with h|h
  .exact h
  exact absurd q (tail_waits hs hc X inv _ i rfl O (mem_ready.1 p).1 j h)
 induction f with
 |zero=>
  intro listed a inv _ p M H;refine⟨λh=>(by rw[h]at p;cases p),λj q=>?_⟩;have r:=small listed inv p j q;by_cases l:j=i
  .subst l;exact⟨r,M.qOp hi H⟩
  have:=z _ _ H j (ready_mono q l);omega
 |succ f Y=>
  intro listed a inv m p M H;refine⟨λh=>(by rw[h]at p;cases p),λj q=>?_⟩;have r:=small listed inv p j q;refine⟨r,?_⟩;by_cases l:j=i
  .subst l;exact M.qOp hi H
  have h1:=(H.2 j (ready_mono q l)).2;obtain⟨s,D,B,E⟩:=mem_ready.1 q;have G:∀e∈D.after,Region.binds md e=true->e.on≠i:=λe U hb N=>by have h1:=E e U hb;rw[N,getD_both (mem_ready.1 p).1]at h1;cases h1
  have h2:=qOp_put B (m j D B l s G) (λcs b=>y i J cs b hi) (λcs b=>y j D cs b B) M h1;refine qOp_mono (λT h3=>Y (listed.setIfInBounds j true) T (inv.set q r) (λk ok V R I S=>?_) (ready_mono p (Ne.symm l)) h3.1 ?_) h2
  .refine m k ok V R ?_ S;by_cases F:j=k
   .subst F;exact s
   rw[getD_set_ne true F]at I;exact I
  rw[Array.setIfInBounds_comm _ _ l];exact h3.2
theorem z3y{n g:Nat}{r:Act->Prop}(m:Region.noSelect ops=true)(hs:Region.sinkB md ops n=true)(hc:Region.chainB md ops n=true)(G:n<ops.size)(l:List Oper):
  ∀(k:Nat) (listed:Array Bool) (a:Act),(∀j,j<l.length->l[j]?=ops[k+j]?)->k+l.length=n->HeadInv md ops n listed->
  Region.lexHead md ops g l.length k listed=true->wpQuiet P ops C r l a->IJ P md ops C n (λb z=>Region.seqB md ops g n b=true/\r z) l.length listed a:=by
 induction l with
 |nil=>
  intro k listed a _ q _ p h;have:k=n:=by simpa using q
  subst this;exact⟨by simpa[Region.lexHead] using p,h⟩
 |cons o l L=>
  intro k listed a B q inv p h;have h0:ops[k]?=some o:=by simpa using(B 0 (by simp)).symm
  simp only[List.length_cons,Region.lexHead,jC]at p;obtain⟨⟨I,F⟩,s⟩:=p;have f:k<n:=by simp only[List.length_cons]at q;omega
  have i:k∈Region.ready md ops listed:=by simpa using I
  have y:qOp P ops C k (wpQuiet P ops C r l) a:=by unfold qOp;simp only[h0];exact h
  obtain⟨v,J,D⟩:=yieldsIn_of_qOp h0 y
  exact zvv h0 (Region.noSelect_spec m) hs hc G f (λb z E=>seqB_ready E.1) l.length listed a inv (Region.free_spec h0 F) i J
   (L (k+1) _ _ (λj M=>by have:=B (j+1) (by simp;omega);simpa[Nat.add_assoc,Nat.add_comm 1 j] using this) (by simp only[List.length_cons]at q;omega) (inv.set i f) s D)
theorem zit{I:Nat}{Q:Exit->Act->World->Prop}{a:Act}{w:World}{l:List Oper}(n:Nat)(F:P.follows .mixedOrders=true)(s:Region.lexTailB .any l.toArray n=true)(E:C {w with drawn:=w.drawn+1})(h:wpQuiet P l.toArray C (λp=>∀w',C w'->wpList P l.toArray Q (l.drop n) p w') (l.take n) a):(Code.region I l.toArray true).wp P Q a w:=by
 simp only[Region.lexTailB,jC,decide_eq_true_eq]at s;obtain⟨⟨⟨⟨m,D⟩,hs⟩,hc⟩,i⟩:=s;have G:n<l.length:=by simpa using D
 have b:(l.take n).length=n:=by simp;omega
 have f:(l.drop n).length=l.toArray.size-n:=by simp
 have o:HeadInv .any l.toArray n (Array.replicate l.toArray.size false):=
  ⟨by simp,λj J _ B=>(by rw[getD_replicate_false]at B;cases B),λt _ ht=>getD_in (by simpa using ht) (getD_replicate_false _ _)⟩
 have H:=z3y (md:=.any) (g:=l.toArray.size-n) m hs hc D (l.take n) 0 _ a (λj z=>by
  have q:j<n:=by rw[b]at z;exact z
  simp[q]) (by simpa using b) o (by rw[b];exact i) h
 refine wp_region_any F ?_
 have:=z3r (Q':=Q) (g:=l.toArray.size-n) (λlisted p w' r y=>by
  have:=wpAny_of_seq (md:=.any) (Q':=Q) (l.drop n) n listed p w' (λj=>by simp[List.getElem?_drop]) (by rw[f];exact y.1) (y.2 w' r)
  rwa [f]at this) _ _ _ _ E H
 rw[b,show n+(l.toArray.size-n)=l.toArray.size by omega]at this;exact this
end

theorem zad{P:Program}{j:Nat}{Q:Exit->Act->World->Prop}{a:Act}{w:World}{l:List Oper}(n:Nat)(i:P.follows .mixedOrders=true)(f:Region.lexTailB .any l.toArray n=true)(h:wpQuiet P l.toArray (λw'=>∃e:Ext w,w'=e.w) (λb=>∀w',(∃e:Ext w,w'=e.w)->wpList P l.toArray Q (l.drop n) b w') (l.take n) a):(Code.region j l.toArray true).wp P Q a w:=
 zit n i f ⟨⟨_,br.drew⟩,rfl⟩ h
theorem wret{P:Program}{p:Nat}{Q:Exit->Act->World->Prop}{a:Act}{w:World}{l b f:List Oper}(n:Nat)(h:wpQuiet P l.toArray (λw'=>∃e:Ext w,w'=e.w) (λi=>∀w',(∃e:Ext w,w'=e.w)->wpList P l.toArray Q f i w') b a)(o:P.follows .mixedOrders=true:=by kernel_rfl)(j:Region.lexTailB .any l.toArray n=true:=by kernel_rfl)(m:l.take n=b/\l.drop n=f:=by dsimp only[List.take,List.drop];exact⟨rfl,rfl⟩):(Code.region p l.toArray true).wp P Q a w:=by
 obtain⟨rfl,rfl⟩:=m;exact zad n o j h
section

open RowKit Go.ChangeShapes Go.WideShapes Go.ChangeAt

theorem own:ownKnob Tryz.prog.godebug=none:=by kernel_rfl
theorem laidOut:laidOutB Tryz.prog=true:=by kernel_rfl
section

variable {H:Type}{enc:TypeId×Value->H}{P:Program}{w:World}

def Rd (enc:TypeId×Value->H) (P:Program) (w:World) (t:TypeId) (cs:List Value):Prop:=∃fuel x,DataW.trod enc P w 0 (λ_=>true) true fuel t cs=some x
theorem CV{t:TypeId}{v:Value}{d:DataW H}{ps:List MemPlace}(h:DataW.Trod enc P w 0 (λ_=>true) true t v d ps):Rd enc P w t v.cells.toList:=
 let ⟨f,hf⟩:=h
 ⟨f,_,hf⟩
theorem AH{t:TypeId}{k:IntKind}{cs:List Value}(ht:P.underlying t=some (.int k))(h:Rd enc P w t cs):∃n,cs=[.int k n]/\(Lit.int k n).wf=true:=by
 obtain⟨f,x,b⟩:=h;obtain⟨n,h1,_,h2⟩:=DataW.trod_int ht b;exact⟨n,h1,h2⟩
theorem yf4{t:TypeId}{cs:List Value}(ht:P.underlying t=some .bool)(h:Rd enc P w t cs):∃b,cs=[.bool b]:=by
 obtain⟨f,x,i⟩:=h;obtain⟨b,h1,_⟩:=DataW.trod_bool ht i;exact⟨b,h1⟩
theorem OP{t:TypeId}{fs:Array Field}{cs:List Value}(ht:P.underlying t=some (.struct fs))(h:Rd enc P w t cs):
  cs.length=P.cellsOf t/\∀(i:Nat) (f:Field),fs[i]?=some f->Rd enc P w f.type ((cs.drop f.offset).take (P.cellsOf f.type)):=by
 obtain⟨f,x,j⟩:=h;obtain⟨xs,m,_,_,h1,h2,h3⟩:=DataW.trod_struct ht j;refine⟨h1,λi f hi=>?_⟩;have b:i<xs.length:=by rw[h2];exact(jE hi)
 have:=h3 i f hi;rw[List.getElem?_eq_getElem b]at this;exact⟨m,_,this⟩
theorem mapM_each{b m:Type}{f:b->Option m}{l:List b}{r:List m}(h:l.mapM f=some r)(i:Nat)(x:b)(j:l[i]?=some x):∃y,f x=some y:=by
 have h1:=mapM_some_get h i x j;have h2:=mapM_some_length h;have o:i<l.length:=(List.getElem?_eq_some_iff.1 j).1;rw[List.getElem?_eq_getElem (by omega)]at h1;exact⟨_,h1⟩
theorem YX{t e:TypeId}{cs:List Value}(ht:P.underlying t=some (.slice e))(h:Rd enc P w t cs):
  cs=[.slice none 0 0]\/∃(a:Addr) (len cap:Nat),cs=[.slice (some a) len cap]/\len<=cap/\cap<=maxLen/\
   ∀i,i<cap->∃es,w.cells? 0 (a.add (i*P.cellsOf e)) (P.cellsOf e)=some es/\Rd enc P w e es:=by
 obtain⟨f,x,b⟩:=h;cases f with
 |zero=>simp[DataW.trod]at b;|succ n=>
  unfold DataW.trod at b;rw[ht]at b;split at b<;>(try (simp_all;done));rename_i p a len cap j;injection j with j;injection j with j;subst j;right;dsimp only at b;by_cases hc:0<=a.block/\len<=cap/\cap<=maxLen;case neg=>rw[jN hc]at b;cases b
  rw[jP hc]at b;simp only[Option.bind_eq_some_iff,Option.map_eq_some_iff,if_true]at b;obtain⟨l,h1,rest,h2,_⟩:=b;refine⟨a,len,cap,rfl,hc.2.1,hc.2.2,λi hi=>?_⟩;have key:∃y,(w.cells? 0 (a.add (i*P.cellsOf e)) (P.cellsOf e)).bind (DataW.trod enc P w 0 (λ_=>true) true n e)=some y:=by
   by_cases m:i<len
   .exact mapM_each h1 i i (by rw[List.getElem?_range m])
   have:=mapM_each h2 (i-len) (i-len) (by rw[List.getElem?_range (by omega)]);rwa [show len+(i-len)=i from by omega]at this
  obtain⟨y,o⟩:=key;obtain⟨es,h3,h4⟩:=Option.bind_eq_some_iff.1 o;exact⟨es,h3,n,y,h4⟩
theorem zX{a:Addr}{n:Nat}{es:List Value}(h:w.cells? 0 a n=some es):es.length=n/\∀j,j<n->w.cell? (a.add j)=es[j]?:=by
 unfold World.cells? at h;split at h
 .have b:=mapM_some_length h;simp at b;exact⟨b,λj f=>mapM_some_get h j j (by simp[f])⟩
 cases h
theorem KZ{r:Reach}{b:Nat}{t:TypeId}{v:Value}(ht:(∃fs,P.underlying t=some (.struct fs))\/∃n e,P.underlying t=some (.array n e))(h:Value.okWide P w r b t v):∃cs,v=.agg cs:=by
 rcases ht with⟨fs,ht⟩|⟨n,e,ht⟩<;>(simp only[Value.okWide,ht]at h;obtain⟨cs,h1,_⟩:=h;exact⟨cs,h1⟩)
theorem WQ{f:Type}{l:List f}(h:l.length=3):∃a b c,l=[a,b,c]:=by
 match l,h with
 | [a,b,c],_=>exact⟨a,b,c,rfl⟩
theorem OO{r:Reach}{q:Nat}{t:TypeId}{k:IntKind}{f f1 f2:Field}{v:Value}{d:DataW H}{ps:List MemPlace}(ht:P.underlying t=some (.struct #[f,f1,f2]))(G:P.underlying f.type=some (.int k)) (I:P.underlying f1.type=some (.int k)) (J:P.underlying f2.type=some (.int k)) (c0:P.cellsOf f.type=1) (c1:P.cellsOf f1.type=1) (c2:P.cellsOf f2.type=1)(D:f.offset=0) (E:f1.offset=1) (F:f2.offset=2) (s:P.cellsOf t=3) (B:Value.okWide P w r q t v) (h:DataW.Trod enc P w 0 (λ_=>true) true t v d ps):
  ∃a b c:Int,v=.agg #[.int k a,.int k b,.int k c]/\(Lit.int k a).wf=true/\(Lit.int k b).wf=true/\(Lit.int k c).wf=true:=by
 obtain⟨cs,rfl⟩:=KZ (.inl ⟨_,ht⟩) B;obtain⟨p,j⟩:=OP ht (CV h);rw[s]at p;obtain⟨x,y,z,i⟩:=WQ p;have g0:=j 0 f rfl;have l:=j 1 f1 rfl;have m:=j 2 f2 rfl;rw[i,D,c0]at g0;rw[i,E,c1]at l;rw[i,F,c2]at m;obtain⟨a,o,L⟩:=AH G g0;obtain⟨b,hb,M⟩:=AH I l;obtain⟨c,hc,wc⟩:=AH J m;simp only[List.drop_zero,List.take_succ_cons,List.take_zero,List.cons.injEq,and_true,List.drop_succ_cons]at o hb hc;subst o hb hc;refine⟨a,b,c,?_,L,M,wc⟩;congr 1;exact Array.toList_inj.1 (by simpa[Value.cells] using i)
theorem z2c{t e:TypeId}{a0:Option Addr}{len cap sz:Nat}(ht:P.underlying t=some (.slice e))(ce:P.cellsOf e=sz)(o:0<sz)(h:Rd enc P w t (Value.slice a0 len cap).cells.toList)(D:len≠0):
  ∃b f:Nat,a0=some ⟨b,f,.none⟩/\b<w.heap.size/\len<=cap/\cap<=maxLen/\
   ∀i,i<cap->∃es,es.length=sz/\Rd enc P w e es/\∀j,j<sz->w.cell? ⟨b,f+i*sz+j,.none⟩=es[j]?:=by
 rcases YX ht h with h0|⟨a,z,r,h0,h1,h2,h3⟩
 .simp[Value.cells]at h0;omega
 simp[Value.cells]at h0;obtain⟨rfl,rfl,rfl⟩:=h0;rw[ce]at h3;obtain⟨b,f,p⟩:=a;have l:p=none:=by obtain⟨es,h4,_⟩:=h3 0 (by omega);obtain⟨s,q⟩:=zX h4;have m:=q 0 o;rw[List.getElem?_eq_getElem (by omega)]at m;simpa[Addr.add] using World.cell?_spot m
 subst l;have key:∀i,i<cap->∃es,es.length=sz/\Rd enc P w e es/\∀j,j<sz->w.cell? ⟨b,f+i*sz+j,.none⟩=es[j]?:=λi hi=>by obtain⟨es,h4,s⟩:=h3 i hi;obtain⟨q,m⟩:=zX h4;exact⟨es,q,s,λj B=>by have:=m j B;simpa[add_plain,Nat.add_assoc] using this⟩
 refine⟨b,f,rfl,?_,h1,h2,key⟩;obtain⟨es,q,_,m⟩:=key 0 (by omega);have y:=m 0 o;rw[List.getElem?_eq_getElem (by omega)]at y;exact GG y
theorem LU(l:laidOutB P=true){W W':World}(hb:Below W.heap.size W W'):∀{ts:List TypeId}{j:List Value}{f:List (DataW H)}{ps:List MemPlace},(ts.all λt=>P.readableRec t&&decide (t<P.types.size))=true->(∀x∈ps,x.block<W.heap.size)->DataW.TrodAll enc P W 0 (λ_=>true) true ts j f ps->
  DataW.TrodAll enc P W' 0 (λb=>decide (b<W.heap.size)) true ts j f ps
 | [],[],[],_,_,_,h=>h
 | [],[],_::_,_,_,_,h=>h.elim
 | [],_::_,_,_,_,_,h=>h.elim
 |_::_,[],_,_,_,_,h=>h.elim
 |_::_,_::_,[],_,_,_,h=>h.elim
 |t::ts,v::j,d::f,ps,ht,hp,h=>by
  obtain⟨p,q,h1,h2,rfl⟩:=h
  simp only[List.all_cons,jC,decide_eq_true_eq]at ht
  exact⟨p,q,Below.trod l ht.1.1 ht.1.2 h1 hb (λx i=>hp x (by simp[i])),LU l hb ht.2 (λx i=>hp x (by simp[i])) h2,rfl⟩
theorem SO{f:Func}{s:ChangeSpec}{W W':World}{args:Array Value}{j i:List (DataW H)}{b:List MemPlace}{tb:TypeId}(E:laidOutB P=true) (m:f.resultTypes=#[tb]) (hu:P.underlying tb=some .bool) (z:s.vars=[])(F:(f.params.toList.all λt=>P.readableRec t&&decide (t<P.types.size))=true)(hs:(s.fn H (j++i)).results=[.lit (.bool true)]/\(s.fn H (j++i)).args=j/\(s.fn H (j++i)).vars=[])(y:DataW.Whole enc P f.params.toList s.vars false W args.toList j i b) (hb:Below W.heap.size W W'):
  s.post enc P f false true false false W args (.bool true) W':=by
 have l:=y;obtain⟨p,q,B,o,rfl,D,_⟩:=y;rw[z]at o
 obtain⟨rfl,rfl⟩:i=[]/\q=[]:=by
  cases i with
  |nil=>exact⟨rfl,o⟩
  |cons _ _=>exact o.elim
 have r:∀x∈p,x.block<W.heap.size:=λx G=>by simpa using l.lt x (by simp[G])
 refine⟨_,_,_,[],p,[],l,?_,?_,?_,hb.frame _,λh=>by cases h⟩
 .rw[hs.1,m];exact trodAll_mk1 (shut_bool hu _)
 .rw[hs.2.1];exact LU E hb F r B
 rw[hs.2.2,z];rfl
end

end

structure Ev where
 k:Int
 c:Int
 ok:Int
 oa:Int
 on:Int
 at':Int
 n:Int
 er:Int
 deriving DecidableEq
def Ev.cells (e:Ev):Array Value:=#[e.k,e.c,e.ok,e.oa,e.on,e.at',e.n,e.er]
def Ev.val (e:Ev):Value:=.agg e.cells
structure Ch where
 kind:Int
 client:Int
 ok:Int
 oa:Int
 on:Int
 bias:Nat
 deriving DecidableEq
def Ch.cells (c:Ch):List Value:=[.int .i64 c.kind,.int .i64 c.client,.int .i64 c.ok,.int .i64 c.oa,.int .i64 c.on,.float .f64 c.bias]
section

open RowKit Go.ChangeShapes Go.WideShapes Go.ChangeAt

section

variable {H:Type}{enc:TypeId×Value->H}{w:World}

theorem iR{es:List Value}(h:Rd enc Tryz.prog w 32 es):∃a b c:Int,es=[.int .i64 a,.int .i64 b,.int .i64 c]:=by
 obtain⟨m,i⟩:=OP Tryz.underlying32 h;have o:Tryz.prog.cellsOf 32=3:=by kernel_rfl
 have k1:Tryz.prog.cellsOf 3=1:=by kernel_rfl
 rw[o]at m;obtain⟨x,y,z,rfl⟩:=WQ m;have g0:Rd enc Tryz.prog w 3 (([x,y,z].drop 0).take (Tryz.prog.cellsOf 3)):=i 0 _ rfl;have j:Rd enc Tryz.prog w 3 (([x,y,z].drop 1).take (Tryz.prog.cellsOf 3)):=i 1 _ rfl;have l:Rd enc Tryz.prog w 3 (([x,y,z].drop 2).take (Tryz.prog.cellsOf 3)):=i 2 _ rfl;rw[k1]at g0 j l;obtain⟨a,f,_⟩:=AH Tryz.underlying3 g0;obtain⟨b,hb,_⟩:=AH Tryz.underlying3 j;obtain⟨c,hc,_⟩:=AH Tryz.underlying3 l;injection f with f;injection hb with hb;injection hc with hc;subst f hb hc;exact⟨a,b,c,rfl⟩
end

end

end Go.Proofs.YtkilokkopbajkaaGreat
