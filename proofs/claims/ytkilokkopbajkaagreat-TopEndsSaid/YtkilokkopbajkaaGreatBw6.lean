
import Derived.Test.YtkilokkopbajkaaGreatBw5

set_option linter.all false
namespace Go.Proofs.YtkilokkopbajkaaGreat

theorem SJ{p c m a x:Int}:LA p c m a x=true↔QA (PA x) (nA x 0) (nA x 1)=x/\0<=pA p c m a/\qB p c a (PA x) (nA x 0) (nA x 1)=true:=by
 unfold LA;simp only[jC,beq_iff_eq,decide_eq_true_eq];exact and_assoc
theorem QJ{p c m a x:Int}(h:LA p c m a x=true)(b:PA x=2):(0<=nA x 0/\nA x 0<=3)/\(0<=nA x 1/\nA x 1<c)/\0<mA (nA x 0):=by
 obtain⟨_,_,h3⟩:=SJ.1 h;unfold qB at h3;rw[jN (by omega),jP b]at h3;simp only[jC,decide_eq_true_eq]at h3;have h1:=iF x 0;have h2:=iF x 1;refine⟨by omega,by omega,?_⟩;have:nA x 0=0\/nA x 0=1\/nA x 0=2\/nA x 0=3:=by omega
 rcases this with e|e|e|e<;>rw[e]<;>decide
theorem zn1{p c m a x:Int}(h:LA p c m a x=true)(b:PA x=3):1<=nA x 0/\nA x 0<=8/\nA x 0<=p-a:=by
 obtain⟨_,_,h3⟩:=SJ.1 h;unfold qB at h3;rw[jN (by omega),jN (by omega),jP b]at h3;simp only[jC,decide_eq_true_eq]at h3;omega
theorem zpu{p c m a x:Int}(h:LA p c m a x=true)(b:PA x=4):0<=nA x 0/\nA x 0<a/\a-8<nA x 0:=by
 obtain⟨_,_,h3⟩:=SJ.1 h;unfold qB at h3;rw[jN (by omega),jN (by omega),jN (by omega),jP b]at h3;simp only[jC,decide_eq_true_eq]at h3;have h1:=iF x 0;omega
theorem zsv{p c m x:Int}(h:QC p c m x=true):(0<=nA x 0/\nA x 0<p)/\(0<=nA x 1/\nA x 1<mA (nA x 2)):=by
 unfold QC at h;simp only[jC,beq_iff_eq,decide_eq_true_eq]at h;have h1:=XE h.1.2;have h2:=iF x 1;omega
theorem pH{k:Int}(h:0<mA k):mA k=16\/mA k=8\/mA k=4\/mA k=2:=by
 unfold mA at*;split<;>(try split)<;>(try split)<;>(try split)<;>simp_all
structure tkOk (s:Sh) (t:Tk):Prop where
 cl:t.done=false->(0<=t.c/\t.c<s.c)/\(0<=t.i/\t.i<s.m)
 en:t.hit=true->(0<=t.ep/\t.ep<s.p)/\(0<=t.es/\t.es<mA t.ek)/\t.ek=t.k
 fd:t.found=true->t.hit=true/\t.done=true
theorem uM(s:Sh)(c k:Int):tkOk s (sC s c k):=by
 refine⟨λh=>?_,λh=>(by cases h),λh=>(by cases h)⟩;simp only[sC,Bool.or_eq_false_iff,Bool.not_eq_false',jC,decide_eq_true_eq,beq_eq_false_iff_ne]at h|-;obtain⟨⟨h1,h2⟩,h3⟩:=h;have h4:=sD h1;have b:=JA.1 h4.1;omega
theorem z1c{s:Sh}{t:Tk}(m:Mem)(h:tkOk s t):tkOk s (XC s t m).1:=by
 obtain⟨h1,h2,h3⟩:=h;unfold XC;dsimp only;split
 .exact⟨h1,h2,h3⟩
 rename_i hd;have hd:t.done=false:=by simpa using hd
 have hc:=h1 hd;split
 .rename_i b;exact⟨λe=>(by cases e),λ_=>h2 b,λ_=>⟨b,rfl⟩⟩
 split
 .rename_i f;have:=zsv f.1;exact⟨λ_=>hc,λ_=>⟨this.1,this.2,f.2⟩,λe=>by have:=(h3 e).2;rw[hd]at this;cases this⟩
 rename_i b _;refine⟨λe=>?_,λe=>absurd e b,λe=>absurd (h3 e).1 b⟩;have:¬t.i+1=s.m:=by simpa using e
 dsimp only;omega
structure puOk (s:Sh) (t:Pu):Prop where
 cl:t.done=false->(0<=t.c/\t.c<s.c)/\(0<=t.i/\t.i<s.m)
theorem z4n(s:Sh)(c pg sl k:Int):puOk s (nD s c pg sl k):=by
 refine⟨λh=>?_⟩;simp only[nD,Bool.or_eq_false_iff,Bool.not_eq_false',jC,decide_eq_true_eq,beq_eq_false_iff_ne]at h|-;obtain⟨⟨⟨⟨⟨h1,h2⟩,f⟩,i⟩,j⟩,h3⟩:=h;have h4:=sD h1;have b:=JA.1 h4.1;omega
theorem XV{s:Sh}{t:Pu}(m:Mem)(h:puOk s t):puOk s (YC s t m).1:=by
 obtain⟨h1⟩:=h;unfold YC;dsimp only;split
 .exact⟨h1⟩
 rename_i hd;have hd:t.done=false:=by simpa using hd
 have hc:=h1 hd;split
 .exact⟨λe=>(by cases e)⟩
 split
 .exact⟨λ_=>hc⟩
 refine⟨λe=>?_⟩;have:¬t.i+1=s.m:=by simpa using e
 dsimp only;omega
structure scOk (s:Sh) (t:Sc):Prop where
 cl:t.done=false->(0<=t.c/\t.c<s.c)/\0<mA t.k/\(0<=t.first/\t.first<s.p)/\(0<=t.many/\t.many<s.p)/\(0<=t.i/\t.i<mA t.k)/\(0<=t.next/\t.next<=2)
 fd:t.found=true->t.done=true/\(0<=t.first/\t.first<s.p)/\(0<=t.many/\t.many<s.p)/\(0<=t.i/\t.i<mA t.k)
theorem z4p(s:Sh)(c k f:Int):scOk s (eD s c k f):=by
 refine⟨λh=>?_,λh=>(by cases h)⟩;simp only[eD,Bool.not_eq_false',jC,decide_eq_true_eq]at h|-;obtain⟨⟨h1,h2⟩,h3⟩:=h;have h4:=sD h1;have b:=XE h3;omega
theorem fW{s:Sh}{t:Sc}(b:t.found=false)(h:(0<=t.c/\t.c<s.c)/\0<mA t.k/\(0<=t.first/\t.first<s.p)/\(0<=t.many/\t.many<s.p)):scOk s (t.turn s):=by
 refine⟨λe=>?_,λe=>?_⟩
 .have:¬t.many+1=s.p:=by simpa[Sc.turn] using e
  simp only[Sc.turn];omega
 simp only[Sc.turn]at e;rw[b]at e;cases e
theorem z0q{s:Sh}{t:Sc}(b:t.found=false)(h:(0<=t.c/\t.c<s.c)/\0<mA t.k/\(0<=t.first/\t.first<s.p)/\(0<=t.many/\t.many<s.p)/\(0<=t.i/\t.i<mA t.k)):scOk s (t.miss s):=by
 unfold Sc.miss;split
 .exact fW b ⟨h.1,h.2.1,h.2.2.1,h.2.2.2.1⟩
 refine⟨λ_=>?_,λe=>?_⟩
 .dsimp only;omega
 dsimp only at e;rw[b]at e;cases e
theorem VD{f d:Bool}{Q:Prop}(h:f=true->d=true/\Q)(hd:d=false):f=false:=by
 cases f
 .rfl
 have:=(h rfl).1;rw[hd]at this;cases this
theorem z2k{s:Sh}{t:Sc}(m:Mem)(h:scOk s t):scOk s (xD s t m).1:=by
 have f:=h.cl;unfold xD;dsimp only;split
 .exact h
 rename_i hd;have hd:t.done=false:=by simpa using hd
 have hc:=f hd;have b:t.found=false:=VD h.fd hd;have j:scOk s (t.turn s):=fW b ⟨hc.1,hc.2.1,hc.2.2.1,hc.2.2.2.1⟩;have i:scOk s (t.miss s):=z0q b ⟨hc.1,hc.2.1,hc.2.2.1,hc.2.2.2.1,hc.2.2.2.2.1⟩;split
 .dsimp only;split
  .refine⟨λ_=>?_,λe=>?_⟩
   .dsimp only;omega
   dsimp only at e;rw[b]at e;cases e
  exact j
 split
 .dsimp only;split
  .refine⟨λ_=>?_,λe=>?_⟩
   .dsimp only;omega
   dsimp only at e;rw[b]at e;cases e
  exact i
 dsimp only;split
 .exact⟨λe=>(by cases e),λ_=>⟨rfl,hc.2.2.1,hc.2.2.2.1,hc.2.2.2.2.1⟩⟩
 exact i
structure pcOk (s:Sh) (t:Pc):Prop where
 cl:t.done=false->(0<=t.c/\t.c<s.c)/\(0<=t.first/\t.first<s.p)/\(0<=t.many/\t.many<s.p)
 fd:t.found=true->t.done=true/\(0<=t.first/\t.first<s.p)/\(0<=t.many/\t.many<s.p)
theorem z5p(s:Sh)(c f:Int):pcOk s (mE s c f):=by
 refine⟨λh=>?_,λh=>(by cases h)⟩;simp only[mE,Bool.or_eq_false_iff,decide_eq_false_iff_not]at h|-;obtain⟨h1,h3⟩:=h;have h4:=sD (by omega:0<=uA s.p s.c s.m c);have b:=XE (by omega:0<=pA s.p s.c s.m f);omega
theorem z3v{s:Sh}{t:Pc}(m:Mem)(h:pcOk s t):pcOk s (ZD s t m).1:=by
 have f:=h.cl;unfold ZD;dsimp only;split
 .exact h
 rename_i hd;have hd:t.done=false:=by simpa using hd
 have hc:=f hd;have i:t.found=false:=VD h.fd hd;have b:pcOk s {t with empty:=false,many:=t.many+1,done:=decide (t.many+1=s.p)}:=by
  refine⟨λe=>?_,λe=>?_⟩
  .have:¬t.many+1=s.p:=by simpa using e
   dsimp only;omega
  dsimp only at e;rw[i]at e;cases e
 split
 .dsimp only;split
  .refine⟨λ_=>hc,λe=>?_⟩;dsimp only at e;rw[i]at e;cases e
  exact b
 dsimp only;split
 .exact⟨λe=>(by cases e),λ_=>⟨rfl,hc.2⟩⟩
 exact b
structure spOk (s:Sh) (t:Sp):Prop where
 cl:t.done=false->(0<=t.c/\t.c<s.c)/\(0<=t.page/\t.page<s.p)/\0<mA t.k/\(0<=t.i/\t.i<=mA t.k)/\(t.back=true->0<t.i)
 fd:t.held=true->t.done=true
theorem TX(s:Sh)(c pg k:Int):spOk s (VB s c pg k):=by
 refine⟨λh=>?_,λh=>(by cases h)⟩;simp only[VB,Bool.not_eq_false',jC,decide_eq_true_eq]at h|-;obtain⟨⟨h1,h2⟩,h3⟩:=h;have h4:=sD h1;have b:=XE h2;refine⟨by omega,by omega,by omega,by omega,λe=>(by cases e)⟩
theorem VP{s:Sh}{t:Sp}(m:Mem)(h:spOk s t):spOk s (SC s t m).1:=by
 have b:=h.cl;unfold SC;split
 .exact h
 rename_i hd;have hd:t.done=false:=by simpa using hd
 have hc:=b hd;have f:t.held=false:=by
  rcases jB t.held with e|e
  .have:=h.fd e;rw[hd]at this;cases this
  exact e
 split
 .rename_i hb;refine⟨λe=>?_,λe=>?_⟩
  .have:¬t.i-1=0:=by simpa using e
   have:=hc.2.2.2.2 hb;refine⟨hc.1,hc.2.1,hc.2.2.1,by dsimp only;omega,λ_=>by dsimp only;omega⟩
  dsimp only at e;rw[f]at e;cases e
 rename_i hb;split
 .exact⟨λe=>(by cases e),λ_=>rfl⟩
 rename_i hi;dsimp only;split
 .refine⟨λ_=>⟨hc.1,hc.2.1,hc.2.2.1,by dsimp only;omega,λe=>absurd e hb⟩,λe=>?_⟩;dsimp only at e;rw[f]at e;cases e
 refine⟨λe=>?_,λe=>?_⟩
 .have:¬t.i=0:=by simpa using e
  exact⟨hc.1,hc.2.1,hc.2.2.1,hc.2.2.2.1,λ_=>by dsimp only;omega⟩
 dsimp only at e;rw[f]at e;cases e
structure bnOk (s:Sh) (t:Bn):Prop where
 cl:t.done=false->(0<=t.c/\t.c<s.c)/\(0<=t.page/\t.page<s.p)/\0<mA t.k/\(0<=t.i/\t.i<=16)/\(t.bound=true->0<t.i/\t.i<mA t.k)
theorem z7r(s:Sh)(c pg k:Int):bnOk s (mC s c pg k):=by
 refine⟨λh=>?_⟩;simp only[mC,Bool.not_eq_false',jC,decide_eq_true_eq]at h|-;obtain⟨⟨h1,h2⟩,h3⟩:=h;have h4:=sD h1;have b:=XE h2;refine⟨by omega,by omega,by omega,by omega,λe=>(by cases e)⟩
theorem z3k{s:Sh}{t:Bn}(m:Mem)(h:bnOk s t):bnOk s (YD s t m).1:=by
 have b:=h.cl;unfold YD;split
 .exact h
 rename_i hd;have hd:t.done=false:=by simpa using hd
 have hc:=b hd;split
 .rename_i hb;refine⟨λe=>?_⟩;have:¬t.i-1=0:=by simpa using e
  have:=hc.2.2.2.2 hb;refine⟨hc.1,hc.2.1,hc.2.2.1,by dsimp only;omega,λ_=>by dsimp only;omega⟩
 rename_i hb;split
 .refine⟨λ_=>⟨hc.1,hc.2.1,hc.2.2.1,?_,λ_=>?_⟩⟩<;>have:=pH hc.2.2.1<;>dsimp only<;>omega
 exact⟨λ_=>⟨hc.1,hc.2.1,hc.2.2.1,by dsimp only;omega,λe=>absurd e hb⟩⟩
def mcOk (s:Sh):Mc->Prop
 |.tk t=>tkOk s t
 |.sc t=>scOk s t
 |.pc t=>pcOk s t
 |.sp t=>spOk s t
 |.bn t=>bnOk s t
theorem jM{s:Sh}{x:Mc}(m:Mem)(h:mcOk s x):mcOk s (yB s x m).1:=by
 cases x with
 |tk t=>exact z1c m h
 |sc t=>exact z2k m h
 |pc t=>exact z3v m h
 |sp t=>exact VP m h
 |bn t=>exact z3k m h
def yN (s:Sh) (t:Sk):Mc->Prop
 |.tk x=>x.k=t.k
 |.sc x=>x.k=t.k
 |.pc _=>True
 |.sp _=>True
 |.bn _=>0<=t.page/\t.page<s.p
theorem z4s(s:Sh)(t:Tk)(m:Mem):(XC s t m).1.k=t.k:=by unfold XC;dsimp only;split<;>(try split)<;>(try split)<;>rfl
theorem z6f(s:Sh)(t:Sc)(m:Mem):(xD s t m).1.k=t.k:=by
 have h1:(t.miss s).k=t.k:=by unfold Sc.miss;split<;>rfl
 unfold xD;dsimp only;split
 .rfl
 split
 .dsimp only;split<;>rfl
 split
 .dsimp only;split<;>first|rfl|exact h1
 dsimp only;split<;>first|rfl|exact h1
theorem QL{s:Sh}{t:Sk}{x:Mc}(m:Mem)(h:yN s t x):yN s t (yB s x m).1:=by
 cases x with
 |tk y=>exact(z4s s y m).trans h
 |sc y=>exact(z6f s y m).trans h
 |pc y=>trivial
 |sp y=>trivial
 |bn y=>exact h
structure skOk (s:Sh) (t:Sk):Prop where
 cl:t.done=false->(0<=t.c/\t.c<s.c)/\0<mA t.k/\(0<=t.first/\t.first<s.p)/\(0<=t.many/\t.many<s.p)/\(∀x,t.now=some x->mcOk s x/\yN s t x)
 fd:t.found=true->t.done=true/\(0<=t.page/\t.page<s.p)/\(0<=t.slot/\t.slot<mA t.k)
theorem oQ{s:Sh}{t:Sk}{pg sl:Int}(h1:0<=pg/\pg<s.p)(h2:0<=sl/\sl<mA t.k):skOk s (t.fin pg sl):=⟨λe=>(by cases e),λ_=>⟨rfl,h1,h2⟩⟩
theorem sW{s:Sh}{t:Sk}{pg:Int}(h:skOk s t)(hd:t.done=false)(h1:0<=pg/\pg<s.p):skOk s (t.bind s pg):=by
 obtain⟨c1,c2,c3,c4,c5⟩:=h.cl hd;refine⟨λ_=>⟨c1,c2,c3,c4,λx b=>?_⟩,λe=>?_⟩
 .simp only[Sk.bind,Option.some.injEq]at b;subst b;exact⟨z7r _ _ _ _,h1⟩
 have:=VD h.fd hd;simp only[Sk.bind]at e;rw[this]at e;cases e
theorem JW{s:Sh}{t:Sk}(h:skOk s t)(hd:t.done=false):skOk s (t.turn s):=by
 obtain⟨c1,c2,c3,c4,c5⟩:=h.cl hd;refine⟨λe=>⟨c1,c2,c3,?_,λx b=>(by cases b)⟩,λe=>?_⟩
 .have:¬t.many+1=s.p:=by simpa[Sk.turn] using e
  simp only[Sk.turn];omega
 have:=VD h.fd hd;simp only[Sk.turn]at e;rw[this]at e;cases e
theorem Sk.uQ{s:Sh}(t:Sk)(h:1<=s.p):0<=t.here s/\t.here s<s.p:=⟨Int.emod_nonneg _ (by omega),Int.emod_lt_of_pos _ (by omega)⟩
theorem WL{s:Sh}{t:Sk}{x:Mc}(h:skOk s t)(hd:t.done=false)(D:t.now=some x)(E:x.done=true)(C:1<=s.p):skOk s (t.after s x):=by
 obtain⟨c1,c2,c3,c4,c5⟩:=h.cl hd;obtain⟨m,l⟩:=c5 x D;have B:=VD h.fd hd;have nx:∀y,mcOk s y->yN s t y->skOk s {t with now:=some y}:=λy n o=>⟨λ_=>⟨c1,c2,c3,c4,λz f=>by simp only[Option.some.injEq]at f;subst f;exact⟨n,o⟩⟩,λe=>(by have e:t.found=true:=e;rw[B]at e;cases e)⟩;cases x with
 |tk y=>
  simp only[Sk.after];split
  .rename_i b;obtain⟨q,r,i⟩:=m.en (m.fd b).1;have j:y.k=t.k:=l;exact oQ q (by rw[<-j,<- i];exact r)
  exact nx (.sc _) (z4p _ _ _ _) rfl
 |sc y=>
  simp only[Sk.after];split
  .rename_i b;obtain⟨_,q,r,i⟩:=m.fd b;have j:y.k=t.k:=l;exact oQ ⟨Int.emod_nonneg _ (by omega),Int.emod_lt_of_pos _ (by omega)⟩ (by rw[<-j];exact i)
  exact nx (.pc _) (z5p _ _ _) trivial
 |pc y=>
  simp only[Sk.after];split
  .exact sW h hd ⟨Int.emod_nonneg _ (by omega),Int.emod_lt_of_pos _ (by omega)⟩
  exact⟨λ_=>⟨c1,c2,c3,c4,λz f=>(by cases f)⟩,λe=>(by have e:t.found=true:=e;rw[B]at e;cases e)⟩
 |sp y=>
  simp only[Sk.after];split
  .exact sW h hd (t.uQ C)
  exact JW h hd
 |bn y=>simp only[Sk.after];exact oQ l (by omega)
theorem iV{s:Sh}(b:1<=s.p)(n:Nat):∀{t:Sk},skOk s t->skOk s (OA s n t):=by
 induction n with
 |zero=>intro t h;exact h;|succ n i=>
  intro t h;unfold OA;split
  .rename_i x f;split
   .rename_i hc;exact i (WL h hc.1 f hc.2 b)
   exact h
  exact h
theorem DX(s:Sh)(c k f:Int):skOk s (dD s c k f):=by
 unfold dD;split
 .rename_i h;have h1:=sD h.1;have h2:=JA.1 h1.1;have h3:=XE h.2.2;refine iV h2.1 5 ⟨λ_=>⟨by dsimp only;omega,h.2.1,by dsimp only;omega,by dsimp only;omega,λx b=>?_⟩,λe=>(by cases e)⟩;simp only[Option.some.injEq]at b;subst b;exact⟨uM _ _ _,rfl⟩
 exact⟨λe=>(by cases e),λe=>(by cases e)⟩
theorem z2o{s:Sh}{t:Sk}(m:Mem)(l:1<=s.p)(h:skOk s t):skOk s (AB s t m).1:=by
 unfold AB;split
 .exact h
 rename_i hd;have hd:t.done=false:=by simpa using hd
 obtain⟨c1,c2,c3,c4,c5⟩:=h.cl hd;have f:=VD h.fd hd;split
 .rename_i x n;obtain⟨j,i⟩:=c5 x n;show skOk s (OA s 5 {t with now:=some (yB s x m).1});refine iV l 5 ⟨λ_=>⟨c1,c2,c3,c4,λz b=>?_⟩,λe=>(by have e:t.found=true:=e;rw[f]at e;cases e)⟩;simp only[Option.some.injEq]at b;subst b;exact⟨jM m j,QL (t:=t) m i⟩
 dsimp only;split
 .refine⟨λ_=>⟨c1,c2,c3,c4,λz b=>?_⟩,λe=>(by have e:t.found=true:=e;rw[f]at e;cases e)⟩;simp only[Option.some.injEq]at b;subst b;exact⟨TX _ _ _ _,trivial⟩
 exact JW h hd
def KC (t:Sk):Nat:=if t.done=true then 0 else match t.now with
 |none=>0
 |some (.tk _)=>4
 |some (.sc _)=>3
 |some (.pc _)=>2
 |some (.sp _)=>2
 |some (.bn _)=>1
theorem RJ{s:Sh}{t:Sk}{x:Mc}(hd:t.done=false)(n:t.now=some x):KC (t.after s x)<KC t:=by
 have h0:KC t=match (some x:Option Mc) with|none=>0|some (.tk _)=>4|some (.sc _)=>3|some (.pc _)=>2|some (.sp _)=>2|some (.bn _)=>1:=by unfold KC;rw[jN (by rw[hd];decide),n]
 rw[h0];have j:KC (t.turn s)=0:=by unfold KC Sk.turn;dsimp only;split<;>rfl
 have l:∀a b,KC (t.fin a b)=0:=λ_ _=>by unfold KC Sk.fin;rw[jP rfl]
 have m:∀y,KC {t with now:=some y}=match (some y:Option Mc) with|none=>0|some (.tk _)=>4|some (.sc _)=>3|some (.pc _)=>2|some (.sp _)=>2|some (.bn _)=>1:=λy=>by unfold KC;rw[jN (by dsimp only;rw[hd];decide)]
 have f:∀a,KC (t.bind s a)=1:=λa=>by unfold KC Sk.bind;rw[jN (by dsimp only;rw[hd];decide)]
 have i:KC {t with now:=none}=0:=by unfold KC;rw[jN (by dsimp only;rw[hd];decide)]
 cases x<;>simp only[Sk.after]<;>(try split)<;>simp only[j,l,m,f,i]<;>decide
theorem zp9{s:Sh}(n:Nat):∀(t:Sk),KC t<=n->OA s (n+1) t=OA s n t:=by
 induction n with
 |zero=>
  intro t h;conv=>lhs;unfold OA
  conv=>rhs;unfold OA
  split
  .rename_i x b;rw[jN];intro hc;have:=RJ (s:=s) hc.1 b;omega
  rfl
 |succ n f=>
  intro t h;conv=>lhs;unfold OA
  conv=>rhs;unfold OA
  split
  .rename_i x b;split
   .rename_i hc;have:=RJ (s:=s) hc.1 b;exact f (t.after s x) (by omega)
   rfl
  rfl
theorem zpr{s:Sh}{t:Sk}{n:Nat}(h:KC t<=n)(k:Nat):OA s (n+k) t=OA s n t:=by
 induction k with
 |zero=>rfl
 |succ k b=>rw[<-b];exact zp9 (n+k) t (by omega)
theorem vW(t:Sk):KC t<=4:=by unfold KC;split<;>(try split)<;>omega
theorem kP{s:Sh}{t:Sk}(h:t.done=true\/t.now=none\/∃x,t.now=some x/\x.done=false)(n:Nat):OA s n t=t:=by
 cases n with
 |zero=>rfl;|succ n=>
  unfold OA;split
  .rename_i x b;rw[jN];rintro⟨h1,h2⟩;rcases h with h|h|⟨y,h,h3⟩
   .rw[h1]at h;cases h
   .rw[b]at h;cases h
   rw[b]at h;obtain rfl:=Option.some.inj h;rw[h2]at h3;cases h3
  rfl
theorem XU{s:Sh}{t:Sk}{x:Mc}(hd:t.done=false)(f:t.now=some x)(b:x.done=true):OA s 5 t=OA s 5 (t.after s x):=by
 have h1:=RJ (s:=s) hd f;have h2:=vW t;rw[zpr (n:=4) (t:=t.after s x) (by omega) 1];show OA s (4+1) t=_;conv=>lhs;unfold OA
 rw[f];dsimp only;rw[jP ⟨hd,b⟩]
structure rnOk (s:Sh) (t:Rn):Prop where
 cl:t.done=false->(0<=t.c/\t.c<s.c)/\(1<=t.pages/\t.pages<=8)/\(0<=t.head/\t.head+t.pages<=s.p)/\(t.head<=t.at'/\t.at'<=t.head+t.pages)/\(0<=t.next/\t.next<=5)/\
  (t.next≠5->t.at'<t.head+t.pages)/\(t.next=2->∃x,t.strip=some x/\spOk s x/\x.done=false)/\(t.next=3->0<=t.i/\t.i<16)/\(t.next=4->t.head<t.i/\t.i<=t.at')/\(t.next=5->t.head<t.i/\t.i<t.head+t.pages)
 fd:t.found=true->t.done=true/\(1<=t.pages/\t.pages<=8)/\(0<=t.head/\t.head+t.pages<=s.p)
theorem QX(s:Sh)(c n:Int):rnOk s (FC s c n):=by
 refine⟨λh=>?_,λh=>(by cases h)⟩;simp only[FC,Bool.not_eq_false',jC,decide_eq_true_eq]at h|-;obtain⟨⟨⟨h1,h2⟩,h3⟩,b⟩:=h;have h4:=sD h1;refine⟨by omega,by omega,by omega,by omega,by omega,λ_=>by omega,λe=>(by cases e),λe=>(by cases e),λe=>(by cases e),λe=>(by cases e)⟩
theorem PU{s:Sh}{t:Rn}(b:t.found=false)(h1:0<=t.c/\t.c<s.c)(h2:1<=t.pages/\t.pages<=8)(h3:0<=t.head/\t.head+t.pages<=s.p)(h4:t.head<=t.at'/\t.at'<=t.head+t.pages)(f:t.next=5)(j:t.head<=t.i/\t.i<t.head+t.pages):rnOk s t.written:=by
 unfold Rn.written;split
 .exact⟨λe=>(by cases e),λ_=>⟨rfl,h2,h3⟩⟩
 refine⟨λ_=>⟨h1,h2,h3,h4,by dsimp only;omega,λe=>?_,λe=>?_,λe=>?_,λe=>?_,λ_=>?_⟩,λe=>?_⟩
 .dsimp only at e;omega
 .dsimp only at e;omega
 .dsimp only at e;omega
 .dsimp only at e;omega
 .dsimp only;omega
 dsimp only at e;rw[b]at e;cases e
theorem XX{s:Sh}{t:Rn}(b:t.found=false)(h1:0<=t.c/\t.c<s.c)(h2:1<=t.pages/\t.pages<=8)(h3:0<=t.head/\t.head+t.pages<=s.p)(h4:t.head<=t.at'/\t.at'<t.head+t.pages):rnOk s t.own:=by
 unfold Rn.own;split
 .exact PU b h1 h2 h3 (by dsimp only;omega) rfl (by dsimp only;omega)
 refine⟨λ_=>⟨h1,h2,h3,by dsimp only;omega,by dsimp only;omega,λ_=>by dsimp only;omega,λe=>(by cases e),λe=>(by cases e),λe=>(by cases e),λe=>(by cases e)⟩,λe=>?_⟩;dsimp only at e;rw[b]at e;cases e
theorem oW{s:Sh}{t:Rn}(b:t.found=false)(hd:t.done=false)(h1:0<=t.c/\t.c<s.c)(h2:1<=t.pages/\t.pages<=8)(h3:0<=t.head/\t.head+t.pages<=s.p)(h4:t.head<=t.at'/\t.at'<t.head+t.pages)(f:t.next=4)(j:t.i<=t.at'):rnOk s (t.gone s):=by
 unfold Rn.gone;split
 .refine⟨λ_=>⟨h1,h2,h3,by omega,by omega,λ_=>h4.2,λe=>by omega,λe=>by omega,λ_=>by omega,λe=>by omega⟩,λe=>?_⟩;rw[b]at e;cases e
 refine⟨λe=>?_,λe=>?_⟩
 .have:¬s.p-t.pages<t.at'+1:=by simpa using e
  exact⟨h1,h2,by dsimp only;omega,by dsimp only;omega,by dsimp only;omega,λ_=>by dsimp only;omega,λe=>(by cases e),λe=>(by cases e),λe=>(by cases e),λe=>(by cases e)⟩
 dsimp only at e;rw[b]at e;cases e
theorem JP{s:Sh}{t:Rn}(b:t.found=false)(hd:t.done=false)(h1:0<=t.c/\t.c<s.c)(h2:1<=t.pages/\t.pages<=8)(h3:0<=t.head/\t.head+t.pages<=s.p)(h4:t.head<=t.at'/\t.at'<t.head+t.pages):rnOk s (t.miss s):=
 oW b hd h1 h2 h3 h4 rfl (Int.le_refl _)
theorem z0v{s:Sh}{t:Rn}(m:Mem)(h:rnOk s t):rnOk s (aC s t m).1:=by
 unfold aC;dsimp only;split
 .exact h
 rename_i hd;have hd:t.done=false:=by simpa using hd
 obtain⟨c1,c2,c3,c4,c5,c6,c7,c8,c9,f⟩:=h.cl hd;have b:=VD h.fd hd;by_cases n:t.next=0
 .have c6:=c6 (by omega);rw[jP n];dsimp only;split
  .refine⟨λ_=>⟨c1,c2,c3,c4,by dsimp only;omega,λ_=>c6,λe=>(by cases e),λe=>(by cases e),λe=>(by cases e),λe=>(by cases e)⟩,λe=>?_⟩;dsimp only at e;rw[b]at e;cases e
  split
  .rename_i j;refine⟨λ_=>⟨c1,c2,c3,c4,by dsimp only;omega,λ_=>c6,λ_=>⟨_,rfl,TX _ _ _ _,?_⟩,λe=>(by cases e),λe=>(by cases e),λe=>(by cases e)⟩,λe=>?_⟩
   .have h1:=(SJ.1 j.1).2.1;have h2:=XE h1;have h3:=(QJ j.1 j.2).2.2;have h4:0<=uA s.p s.c s.m t.c:=by unfold uA;rw[jP ⟨h2.1,BA.2 (by omega)⟩];exact c1.1
    simp[VB,h1,h3,h4]
   dsimp only at e;rw[b]at e;cases e
  exact JP b hd c1 c2 c3 (by omega)
 rw[jN n];by_cases n1:t.next=1
 .have c6:=c6 (by omega);rw[jP n1];dsimp only;split
  .exact XX b c1 c2 c3 (by omega)
  exact JP b hd c1 c2 c3 (by omega)
 rw[jN n1];by_cases n2:t.next=2
 .have c6:=c6 (by omega);obtain⟨x,o,l,q⟩:=c7 n2;rw[jP n2,o];dsimp only;split
  .refine⟨λ_=>⟨c1,c2,c3,c4,by dsimp only;omega,λ_=>c6,λe=>(by cases e),λ_=>by dsimp only;omega,λe=>(by cases e),λe=>(by cases e)⟩,λe=>?_⟩;dsimp only at e;rw[b]at e;cases e
  split
  .exact JP b hd c1 c2 c3 (by dsimp only;omega)
  rename_i i;refine⟨λ_=>⟨c1,c2,c3,c4,c5,λ_=>c6,λ_=>⟨_,rfl,VP m l,by simpa using i⟩,λe=>?_,λe=>?_,λe=>?_⟩,λe=>?_⟩
  .exact c8 e
  .exact c9 e
  .exact f e
  dsimp only at e;rw[b]at e;cases e
 rw[jN n2];by_cases n3:t.next=3
 .have c6:=c6 (by omega);have c8:=c8 n3;rw[jP n3];dsimp only;split
  .exact XX b c1 c2 c3 (by dsimp only;omega)
  refine⟨λ_=>⟨c1,c2,c3,c4,c5,λ_=>c6,λe=>absurd e n2,λ_=>by dsimp only;omega,λe=>by dsimp only at e;omega,λe=>by dsimp only at e;omega⟩,λe=>?_⟩;dsimp only at e;rw[b]at e;cases e
 rw[jN n3];by_cases n4:t.next=4
 .have c6:=c6 (by omega);have c9:=c9 n4;rw[jP n4];exact oW b hd c1 c2 c3 (by dsimp only;omega) n4 (by dsimp only;omega)
 rw[jN n4];have n5:t.next=5:=by omega
 have f:=f n5;exact PU b c1 c2 c3 c4 n5 (by omega)
theorem LE{s:Sh}{c:Int}{b:Blk}:b.fits s c=true↔mayB s.p s.c s.m=true/\(0<=c/\c<s.c)/\(0<=b.page/\b.page<s.p)/\(b.large=true->1<=b.pages/\b.pages<=8/\b.pages<=s.p-b.page)/\(b.large=false->0<=b.slot/\b.slot<mA b.k):=by
 unfold Blk.fits;by_cases h1:uA s.p s.c s.m c<0
 .rw[jP (.inl h1)];refine⟨λe=>(by cases e),λh=>?_⟩;have:uA s.p s.c s.m c=c:=by unfold uA;rw[jP ⟨h.1,BA.2 (by omega)⟩]
  omega
 by_cases h2:pA s.p s.c s.m b.page<0
 .rw[jP (.inr h2)];refine⟨λe=>(by cases e),λh=>?_⟩;have h3:=JA.1 h.1;have:pA s.p s.c s.m b.page=s.c+b.page:=by unfold pA;rw[jP ⟨h.1,BA.2 (by omega)⟩]
  omega
 rw[jN (by omega)];have h3:=sD (by omega:0<=uA s.p s.c s.m c);have h4:=XE (by omega:0<=pA s.p s.c s.m b.page);cases hl:b.large
 .simp only[Bool.false_eq_true,if_false,jC,decide_eq_true_eq];exact⟨λh=>⟨h3.1,h3.2,h4.2,λe=>(by cases e),λ_=>h⟩,λh=>h.2.2.2.2 (by simp)⟩
 simp only[if_true,jC,decide_eq_true_eq];exact⟨λh=>⟨h3.1,h3.2,h4.2,λ_=>⟨h.1.1,h.1.2,h.2⟩,λe=>(by cases e)⟩,λh=>by have:=h.2.2.2.1 (by simp);exact⟨⟨this.1,this.2.1⟩,this.2.2⟩⟩
def cmOk (s:Sh) (t:Cm):Prop:=t.done=false->t.b.fits s t.c=true
theorem jQ(s:Sh)(c:Int)(b:Blk):cmOk s (zB s c b):=λh=>by simpa[zB] using h
structure unOk (s:Sh) (t:Un):Prop where
 cl:t.done=false->t.b.fits s t.c=true/\(t.b.large=true->0<=t.i/\t.i<t.b.pages)
theorem z8l(s:Sh)(c:Int)(b:Blk):unOk s (UC s c b):=by
 refine⟨λh=>?_⟩;have h:b.fits s c=true:=by simpa[UC] using h
 refine⟨h,λf=>?_⟩;have:=(LE.1 h).2.2.2.1 f;simp only[UC];omega
theorem z0o{s:Sh}{t:Un}(m:Mem)(h:unOk s t):unOk s (QB s t m).1:=by
 unfold QB;split
 .exact h
 rename_i hd;obtain⟨h1,h2⟩:=h.cl (by simpa using hd);split
 .exact⟨λe=>(by cases e)⟩
 rename_i f;have f:t.b.large=true:=by simpa using f
 have h3:=h2 f;split
 .exact⟨λe=>(by cases e)⟩
 exact⟨λ_=>⟨h1,λ_=>by dsimp only;omega⟩⟩
structure feOk (s:Sh) (t:Fe):Prop where
 cl:t.done=false->(0<=t.c/\t.c<s.c)/\(0<=t.page/\t.page<s.p)/\spB s t.a=true/\(0<=t.next/\t.next<=4)/\(t.next<=1->t.i=0)/\
  (1<=t.next->(t.pk=3/\1<=t.pa/\t.pa<=8/\t.pa<=s.p-t.page)\/(t.pk=2/\0<mA t.pa/\(0<=t.slot/\t.slot<mA t.pa)))/\
  (t.next=1->0<=t.word/\t.word<18446744073709551616)/\(t.next=2->t.pk=2/\∃x,t.put=some x/\puOk s x/\x.done=false)/\(t.next=3->t.pk=2)/\(t.next=4->t.pk=3/\0<=t.i/\t.i<t.pa)
theorem gT{s:Sh}{a:Int}:spB s a=true↔mayB s.p s.c s.m=true/\0<=a/\a<s.p*64:=by
 unfold spB;simp only[jC,BA];exact⟨λh=>⟨h.1,h.2.1,by omega⟩,λh=>⟨h.1,h.2.1,by omega⟩⟩
theorem BX(s:Sh)(c a:Int):feOk s (uB s c a):=by
 refine⟨λh=>?_⟩;simp only[uB,Bool.or_eq_false_iff,Bool.not_eq_false',decide_eq_false_iff_not]at h|-;obtain⟨h1,h2⟩:=h;have h3:=gT.1 h1;have h4:=sD (by omega:0<=uA s.p s.c s.m c);rw[jP h1];exact⟨h4.2,by omega,h1,by omega,(λ_=>by first|rfl|trivial),λe=>by omega,λe=>by omega,λe=>by omega,λe=>by omega,λe=>by omega⟩
theorem oH(t:Fe)(x:Pu)(b:t.put=some x):(x.put=true/\t.kept={t with done:=true})\/(x.put=false/\x.done=true/\t.kept={t with next:=3})\/(x.put=false/\x.done=false/\t.kept=t):=by
 unfold Fe.kept;rw[b];dsimp only;cases h1:x.put
 .cases h2:x.done
  .exact .inr (.inr ⟨rfl,rfl,by simp⟩)
  exact .inr (.inl ⟨rfl,rfl,by simp⟩)
 exact .inl ⟨rfl,by simp⟩
theorem UX{b k:Int}(h:0<=b/\b<64)(f:0<mA k):0<zA k/\0<=b/zA k/\b/zA k<mA k:=by
 have h1:=UD f;have:k=0\/k=1\/k=2\/k=3:=by omega
 rcases this with rfl|rfl|rfl|rfl
 .rw[show zA 0=4 from rfl,show mA 0=16 from rfl];omega
 .rw[show zA 1=8 from rfl,show mA 1=8 from rfl];omega
 .rw[show zA 2=16 from rfl,show mA 2=4 from rfl];omega
 rw[show zA 3=32 from rfl,show mA 3=2 from rfl];omega
theorem z1a{s:Sh}{t:Fe}(m:Mem)(o:m.fit)(h:feOk s t):feOk s (NB s t m).1:=by
 unfold NB;split
 .exact h
 rename_i hd;have hd:t.done=false:=by simpa using hd
 obtain⟨c1,c2,c3,c4,c5,c6,c7,c8,c9,i⟩:=h.cl hd;by_cases q:t.next=0
 .rw[jP q];unfold Fe.look;dsimp only;have j:0<=t.a%64/\t.a%64<64:=by omega
  split
  .rename_i hb;have h3:=zn1 hb.1 hb.2.1;refine⟨λ_=>⟨c1,c2,c3,by dsimp only;omega,λ_=>c5 (by omega),λ_=>.inl ?_,λ_=>Mem.yF o _,λe=>by dsimp only at e;omega,λe=>by dsimp only at e;omega,λe=>by dsimp only at e;omega⟩⟩;dsimp only;rw[jP hb.1,jP hb.1];exact⟨hb.2.1,h3⟩
  split
  .rename_i hb;have h3:=(QJ hb.1 hb.2.1).2.2;refine⟨λ_=>⟨c1,c2,c3,by dsimp only;omega,λ_=>c5 (by omega),λ_=>.inr ?_,λ_=>Mem.yF o _,λe=>by dsimp only at e;omega,λe=>by dsimp only at e;omega,λe=>by dsimp only at e;omega⟩⟩;dsimp only;rw[jP hb.1,jP hb.1];exact⟨hb.2.1,h3,(UX j h3).2⟩
  exact⟨λe=>(by cases e)⟩
 rw[jN q];by_cases n1:t.next=1
 .rw[jP n1];have c6:=c6 (by omega);have c5:=c5 (by omega);unfold Fe.claim;split
  .rename_i f;have c6:1<=t.pa/\t.pa<=8/\t.pa<=s.p-t.page:=by rcases c6 with h|h<;>omega
   refine⟨λ_=>⟨c1,c2,c3,by dsimp only;omega,λe=>by dsimp only at e;omega,λ_=>.inl ⟨f,c6⟩,λe=>by dsimp only at e;omega,λe=>by dsimp only at e;omega,λe=>by dsimp only at e;omega,λ_=>⟨f,by dsimp only;omega,by dsimp only;omega⟩⟩⟩
  rename_i f;have c6:t.pk=2/\0<mA t.pa/\(0<=t.slot/\t.slot<mA t.pa):=by rcases c6 with h|h;exact absurd h.1 f;exact h
  dsimp only;have b:∀(u:Fe),u.c=t.c->u.page=t.page->u.a=t.a->u.next=3->u.pk=t.pk->u.pa=t.pa->u.slot=t.slot->feOk s u:=λu r y z F n B C=>by refine⟨λ_=>⟨by rw[r];exact c1,by rw[y];exact c2,by rw[z];exact c3,by omega,λe=>by omega,λ_=>.inr ?_,λe=>by omega,λe=>by omega,λ_=>by rw[n];exact c6.1,λe=>by omega⟩⟩;rw[n,B,C];exact c6
  split
  .rcases oH ({t with gave:=decide (m.get (bB s.p s.c s.m t.page t.slot)=CE t.pa),next:=2,put:=some (nD s t.c t.page t.slot t.pa)}:Fe) _ rfl with⟨h1,_⟩|⟨h1,h2,h3⟩|⟨h1,h2,h3⟩
   .simp[nD]at h1
   .rw[h3];exact b _ rfl rfl rfl rfl rfl rfl rfl
   rw[h3];exact⟨λ_=>⟨c1,c2,c3,by dsimp only;omega,λe=>by dsimp only at e;omega,λ_=>.inr c6,λe=>by dsimp only at e;omega,λ_=>⟨c6.1,_,rfl,z4n _ _ _ _ _,h2⟩,λe=>by dsimp only at e;omega,λe=>by dsimp only at e;omega⟩⟩
  exact b _ rfl rfl rfl rfl rfl rfl rfl
 rw[jN n1];by_cases n2:t.next=2
 .rw[jP n2];have c6:=c6 (by omega);obtain⟨f,x,D,l,E⟩:=c8 n2;rw[D];dsimp only;rcases oH ({t with put:=some (YC s x m).1}:Fe) _ rfl with⟨h1,h3⟩|⟨h1,h2,h3⟩|⟨h1,h2,h3⟩
  .rw[h3];exact⟨λe=>(by cases e)⟩
  .rw[h3];exact⟨λ_=>⟨c1,c2,c3,by dsimp only;omega,λe=>by dsimp only at e;omega,λ_=>c6,λe=>by dsimp only at e;omega,λe=>by dsimp only at e;omega,λ_=>f,λe=>by dsimp only at e;omega⟩⟩
  rw[h3];exact⟨λ_=>⟨c1,c2,c3,c4,λe=>by dsimp only at e;omega,λ_=>c6,λe=>by dsimp only at e;omega,λ_=>⟨f,_,rfl,XV m l,h2⟩,λ_=>f,λe=>by dsimp only at e;omega⟩⟩
 rw[jN n2];by_cases n3:t.next=3
 .rw[jP n3];exact⟨λe=>(by cases e)⟩
 rw[jN n3];have n4:t.next=4:=by omega
 have i:=i n4;split
 .exact⟨λe=>(by cases e)⟩
 exact⟨λ_=>⟨c1,c2,c3,c4,λe=>by dsimp only at e;omega,λ_=>c6 (by omega),λe=>by dsimp only at e;omega,λe=>by dsimp only at e;omega,λe=>by dsimp only at e;omega,λ_=>⟨i.1,by dsimp only;omega,by dsimp only;omega⟩⟩⟩
end Go.Proofs.YtkilokkopbajkaaGreat
