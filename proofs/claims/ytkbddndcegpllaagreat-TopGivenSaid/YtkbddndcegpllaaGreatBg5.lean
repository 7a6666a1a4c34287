/- Texts bound together: InvB InvC InvD. -/
import Derived.Test.YtkbddndcegpllaaGreatBg4

set_option linter.all false
namespace Go.Proofs.YtkbddndcegpllaaGreat

section

structure Ab where
 pg:Int->PW
 sl:Int->Int->SW
 mg:Int->Int->MW
 st:Int->TW
def up {α:Type} (f:Int->α) (a:Int) (v:α):Int->α:=fun x=> if x=a then v else f x
def up2 {α:Type} (f:Int->Int->α) (a b:Int) (v:α):Int->Int->α:=fun x y=> if x=a/\y=b then v else f x y
def Ab.page (σ:Ab) (p:Int) (v:PW):Ab:= { σ with pg:=up σ.pg p v }
def Ab.slot (σ:Ab) (p i:Int) (v:SW):Ab:= { σ with sl:=up2 σ.sl p i v }
def Ab.mag (σ:Ab) (c i:Int) (v:MW):Ab:= { σ with mg:=up2 σ.mg c i v }
def Ab.stat (σ:Ab) (c:Int) (v:TW):Ab:= { σ with st:=up σ.st c v }
theorem zp8{b:Type}(f:Int->b)(a:Int)(v:b):up f a v a=v:=if_pos rfl
theorem z6r{b:Type}(f:Int->b){a x:Int}(h:x≠a)(v:b):up f a v x=f x:=if_neg h
theorem zly{i:Type}(f:Int->Int->i)(a b:Int)(v:i):up2 f a b v a b=v:=if_pos ⟨rfl,rfl⟩
theorem zv2{i:Type}(f:Int->Int->i){a b x y:Int}(h:¬ (x=a/\y=b))(v:i):up2 f a b v x y=f x y:=if_neg h
structure Rep (s:Sh) (m:Mem) (σ:Ab):Prop where
 fi:Fits s m
 pg:∀ p,0<=p/\p < s.p->m.get (zak s.p s.c s.m p)=(σ.pg p).enc
 sl:∀ p i,0<=p/\p < s.p->0<=i/\i < 16->m.get (zbk s.p s.c s.m p i)=(σ.sl p i).enc
 mg:∀ c i,0<=c/\c < s.c->0<=i/\i < s.m->m.get (ze9 s.p s.c s.m c i)=(σ.mg c i).enc
 st:∀ c,0<=c/\c < s.c->m.get (zae s.p s.c s.m c)=(σ.st c).enc
theorem zwv{m m':Mem}(h:m'.ws=m.ws)(a:Int):m'.get a=m.get a:=by unfold Mem.get;rw[h]
theorem zqk{m m':Mem}{a x:Int}(h:m'.ws=m.ws.set a.toNat x)(f:m.has a){b:Int}(hb:0<=b):m'.get b=if b=a then x else m.get b:=by
 have i:=f.1;have j:=f.2;unfold Mem.get;rw[h,List.getD_eq_getElem?_getD,List.getD_eq_getElem?_getD,List.getElem?_set];by_cases e:b=a
 ·subst e;rw[if_pos rfl,if_pos (by omega),if_pos rfl];rfl
 rw[if_neg (by omega),if_neg e]
section

variable {s:Sh} {m m':Mem} {σ:Ab}

theorem Rep.may(h:Rep s m σ):mayB s.p s.c s.m=true:=h.fi.may
theorem Rep.same(h:Rep s m σ)(e:m'.ws=m.ws):Rep s m' σ:=
 ⟨h.fi.zh1 (by rw[e]),fun p b=>(zwv e _).trans (h.pg p b),fun p i b hi=>(zwv e _).trans (h.sl p i b hi),fun c i hc hi=>(zwv e _).trans (h.mg c i hc hi),fun c hc=>(zwv e _).trans (h.st c hc)⟩
theorem ixs(h:Fits s m):(∀ p,0<=p/\p<s.p->zak s.p s.c s.m p=s.c+p)/\(∀ p i,0<=p/\p<s.p->0<=i/\i<16->zbk s.p s.c s.m p i=s.c+s.p+p*16+i)/\(∀ c i,0<=c/\c<s.c->0<=i/\i<s.m->ze9 s.p s.c s.m c i=s.c+s.p+s.p*16+c*s.m+i)/\(∀ c,0<=c/\c<s.c->zae s.p s.c s.m c=c):=
 ⟨fun p b=>(h.page b).1,fun p i b hi=>(h.slot b hi).1,fun c i hc hi=>(h.mag hc hi).1,fun c hc=>(h.status hc).1⟩
theorem yb4{c b i j M:Int}(hi:0<=i/\i<M)(f:0<=j/\j<M)(e:c*M+i=b*M+j):c=b/\i=j:=by
 have r:0<M:=by omega
 have l:(c*M+i)/M=c:=by rw[Int.add_comm,Int.add_mul_ediv_right _ _ (by omega),Int.ediv_eq_zero_of_lt hi.1 hi.2];omega
 have n:(b*M+j)/M=b:=by rw[Int.add_comm,Int.add_mul_ediv_right _ _ (by omega),Int.ediv_eq_zero_of_lt f.1 f.2];omega
 have q:c=b:=by rw[<-l,<- n,e]
 subst q;exact⟨rfl,by omega⟩
theorem Rep.zd7(h:Rep s m σ){p:Int}(r:0<=p/\p<s.p)(v:PW)(e:m'.ws=m.ws.set (zak s.p s.c s.m p).toNat v.enc):Rep s m' (σ.page p v):=by
 obtain⟨n,t,y,z⟩:=ixs h.fi;have hb:=h.fi.bd;have j:=fun {b}=>@zqk m m' _ _ e (h.fi.zhu r) b;rw[n p r]at j;refine⟨h.fi.zh1 (by rw[e];simp),fun q f=>?_,fun q i f hi=>?_,fun c i hc hi=>?_,fun c hc=>?_⟩
 ·rw[n q f,j (by omega)];by_cases l:q=p
  ·subst l;rw[if_pos rfl];show _=PW.enc (up _ _ _ _);rw[zp8]
  rw[if_neg (by omega)];show _=PW.enc (up _ _ _ _);rw[z6r _ l,<- n q f];exact h.pg q f
 ·rw[t q i f hi,j (by omega),if_neg (by omega),<- t q i f hi];exact h.sl q i f hi
 ·have:=Int.mul_nonneg hc.1 (show 0<=s.m by omega);rw[y c i hc hi,j (by omega),if_neg (by omega),<- y c i hc hi];exact h.mg c i hc hi
 rw[z c hc,j (by omega),if_neg (by omega)];have:=h.st c hc;rw[z c hc]at this;exact this
theorem Rep.setSlot(h:Rep s m σ){p j:Int}(y:0<=p/\p<s.p)(t:0<=j/\j<16)(v:SW)(e:m'.ws=m.ws.set (zbk s.p s.c s.m p j).toNat v.enc):Rep s m' (σ.slot p j v):=by
 obtain⟨z,r,B,C⟩:=ixs h.fi;have hb:=h.fi.bd;have l:=fun {b}=>@zqk m m' _ _ e (h.fi.zj0 y t) b;rw[r p j y t]at l;refine⟨h.fi.zh1 (by rw[e];simp),fun q f=>?_,fun q i f hi=>?_,fun c i hc hi=>?_,fun c hc=>?_⟩
 ·rw[z q f,l (by omega),if_neg (by omega),<- z q f];exact h.pg q f
 ·rw[r q i f hi,l (by omega)];by_cases n:q=p/\i=j
  ·obtain⟨rfl,rfl⟩:=n;rw[if_pos rfl];show _=SW.enc (up2 _ _ _ _ _ _);rw[zly]
  rw[if_neg (by omega)];show _=SW.enc (up2 _ _ _ _ _ _);rw[zv2 _ n,<- r q i f hi];exact h.sl q i f hi
 ·have:=Int.mul_nonneg hc.1 (show 0<=s.m by omega);rw[B c i hc hi,l (by omega),if_neg (by omega),<- B c i hc hi];exact h.mg c i hc hi
 rw[C c hc,l (by omega),if_neg (by omega)];have:=h.st c hc;rw[C c hc]at this;exact this
theorem Rep.z1g(h:Rep s m σ){x j:Int}(t:0<=x/\x<s.c)(r:0<=j/\j<s.m)(v:MW)(e:m'.ws=m.ws.set (ze9 s.p s.c s.m x j).toNat v.enc):Rep s m' (σ.mag x j v):=by
 obtain⟨z,B,y,C⟩:=ixs h.fi;have hb:=h.fi.bd;have n:=fun {b}=>@zqk m m' _ _ e (h.fi.magA t r) b;have D:=Int.mul_nonneg t.1 (show 0<=s.m by omega);rw[y x j t r]at n;refine⟨h.fi.zh1 (by rw[e];simp),fun q f=>?_,fun q i f hi=>?_,fun c i hc hi=>?_,fun c hc=>?_⟩
 ·rw[z q f,n (by omega),if_neg (by omega),<- z q f];exact h.pg q f
 ·rw[B q i f hi,n (by omega),if_neg (by omega),<- B q i f hi];exact h.sl q i f hi
 ·have E:=Int.mul_nonneg hc.1 (show 0<=s.m by omega);rw[y c i hc hi,n (by omega)];by_cases l:c=x/\i=j
  ·obtain⟨rfl,rfl⟩:=l;rw[if_pos rfl];show _=MW.enc (up2 _ _ _ _ _ _);rw[zly]
  rw[if_neg (fun e=>l (yb4 hi r (by omega)))];show _=MW.enc (up2 _ _ _ _ _ _);rw[zv2 _ l,<- y c i hc hi];exact h.mg c i hc hi
 rw[C c hc,n (by omega),if_neg (by omega)];have:=h.st c hc;rw[C c hc]at this;exact this
theorem Rep.zpm(h:Rep s m σ){x:Int}(r:0<=x/\x<s.c)(v:TW)(e:m'.ws=m.ws.set (zae s.p s.c s.m x).toNat v.enc):Rep s m' (σ.stat x v):=by
 obtain⟨t,y,z,n⟩:=ixs h.fi;have hb:=h.fi.bd;have l:=fun {b}=>@zqk m m' _ _ e (h.fi.zda r) b;rw[n x r]at l;refine⟨h.fi.zh1 (by rw[e];simp),fun q f=>?_,fun q i f hi=>?_,fun c i hc hi=>?_,fun c hc=>?_⟩
 ·rw[t q f,l (by omega),if_neg (by omega),<- t q f];exact h.pg q f
 ·rw[y q i f hi,l (by omega),if_neg (by omega),<- y q i f hi];exact h.sl q i f hi
 ·have:=Int.mul_nonneg hc.1 (show 0<=s.m by omega);rw[z c i hc hi,l (by omega),if_neg (by omega),<- z c i hc hi];exact h.mg c i hc hi
 rw[n c hc,l (by omega)];by_cases j:c=x
 ·subst j;rw[if_pos rfl];show _=TW.enc (up _ _ _ _);rw[zp8]
 rw[if_neg j];show _=TW.enc (up _ _ _ _);rw[z6r _ j];have:=h.st c hc;rw[n c hc]at this;exact this
end

def zhi (p:PW) (i:Int) (x:SW):Prop:=match p with
 | .held o=> x= .none\/(x= .way o/\0<=i/\i < 16)
 | .super k _=> if 0<=i/\i < zah k then x= .opened k\/x= .taken k\/∃ c,x= .way c else x= .none
 | _=> x= .none
structure GI (s:Sh) (σ:Ab):Prop where
 pf:∀ p,(σ.pg p).fit s p
 sf:∀ p i,(σ.sl p i).fit s
 mf:∀ c i,(σ.mg c i).fit s
 tf:∀ c,(σ.st c).fit s
 mr:∀ c i,σ.mg c i≠ .none->(0<=c/\c < s.c)/\0<=i/\i < s.m
 tr:∀ c,σ.st c≠ .unused->0<=c/\c < s.c
 sk:∀ p i,zhi (σ.pg p) i (σ.sl p i)
 bd:∀ p h,σ.pg p= .body h->(∃ o,σ.pg h= .held o)\/∃ n,σ.pg h= .large n/\p < h + n
 lg:∀ p n,σ.pg p= .large n->∀ j,1<=j->j < n->σ.pg (p + j)= .body p
 mv:∀ c j p i k,σ.mg c j= .entry p i k->(∃ b,σ.pg p= .super k b)/\σ.sl p i= .way c
 mi:∀ c j j' p i k k',σ.mg c j= .entry p i k->σ.mg c j'= .entry p i k'->j=j'
structure Same (x:Int) (σ σ':Ab):Prop where
 h:∀ p,σ'.pg p= .held x↔σ.pg p= .held x
 hs:∀ p i,σ.pg p= .held x->σ'.sl p i=σ.sl p i
 b:∀ p h,σ.pg h= .held x->(σ'.pg p= .body h↔σ.pg p= .body h)
 w:∀ p i k,((∃ b,σ'.pg p= .super k b)/\σ'.sl p i= .way x)↔((∃ b,σ.pg p= .super k b)/\σ.sl p i= .way x)
 m:∀ i,σ'.mg x i=σ.mg x i
theorem Same.refl(x:Int)(σ:Ab):Same x σ σ:=⟨fun _=>.rfl,fun _ _ _=>rfl,fun _ _ _=>.rfl,fun _ _ _=>.rfl,fun _=>rfl⟩
theorem Same.trans{x:Int}{a b c:Ab}(h:Same x a b)(k:Same x b c):Same x a c:=
 ⟨fun p=>(k.h p).trans (h.h p),fun p i f=>(k.hs p i ((h.h p).2 f)).trans (h.hs p i f),fun p q l=>(k.b p q ((h.h q).2 l)).trans (h.b p q l),fun p i j=>(k.w p i j).trans (h.w p i j),fun i=>(k.m i).trans (h.m i)⟩
structure Own where
 h:Int->Prop
 b:Int->Int->Prop
 w:Int->Int->Int->Prop
def Own.no:Own:=⟨fun _=> False,fun _ _=> False,fun _ _ _=> False⟩
def Own.add (o r:Own):Own:=⟨fun p=> o.h p\/r.h p,fun p h=> o.b p h\/r.b p h,fun p i k=> o.w p i k\/r.w p i k⟩
def Own.way (p i k:Int):Own:=⟨fun _=> False,fun _ _=> False,fun p' i' k'=> p'=p/\i'=i/\k'=k⟩
def Own.ways (p n k:Int):Own:=⟨fun _=> False,fun _ _=> False,fun p' i' k'=> p'=p/\(0<=i'/\i' < n)/\k'=k⟩
def Own.page (p:Int):Own:=⟨fun p'=> p'=p,fun _ _=> False,fun _ _ _=> False⟩
def Own.pages (lo hi:Int):Own:=⟨fun p'=> lo<=p'/\p' < hi,fun _ _=> False,fun _ _ _=> False⟩
def Own.bodies (h lo hi:Int):Own:=⟨fun _=> False,fun p' h'=> h'=h/\lo<=p'/\p' < hi,fun _ _ _=> False⟩
structure zaz (σ:Ab) (c:Int) (o:Own):Prop where
 h:∀ p,σ.pg p= .held c↔o.h p
 b:∀ p h,(σ.pg p= .body h/\σ.pg h= .held c)↔o.b p h
 w:∀ p i k,((∃ b,σ.pg p= .super k b)/\σ.sl p i= .way c)↔(o.w p i k\/∃ j,σ.mg c j= .entry p i k)
 d:∀ p i k j,o.w p i k->σ.mg c j≠ .entry p i k
theorem zaz.eq{σ:Ab}{c:Int}{o f:Own}(h:zaz σ c o)(n:∀ p,f.h p↔o.h p)(r:∀ p q,f.b p q↔o.b p q)(l:∀ p i k,f.w p i k↔o.w p i k):zaz σ c f:=
 ⟨fun p=>(h.h p).trans (n p).symm,fun p q=>(h.b p q).trans (r p q).symm,fun p i k=>(h.w p i k).trans (or_congr (l p i k).symm .rfl),fun p i k j t=>h.d p i k j ((l p i k).1 t)⟩
theorem zaz.same{σ σ':Ab}{c:Int}{o:Own}(h:zaz σ c o)(hs:Same c σ σ'):zaz σ' c o:=by
 refine⟨fun p=>(hs.h p).trans (h.h p),fun p q=>?_,fun p i k=>(hs.w p i k).trans ((h.w p i k).trans (or_congr .rfl ⟨fun ⟨j,e⟩=>⟨j,(hs.m j).trans e⟩,fun ⟨j,e⟩=>⟨j,(hs.m j).symm.trans e⟩⟩)),fun p i k j n e=>h.d p i k j n ((hs.m j).symm.trans e)⟩;rw[<-h.b p q,hs.h q];constructor
 ·rintro⟨l,f⟩;exact⟨(hs.b p q f).1 l,f⟩
 rintro⟨l,f⟩;exact⟨(hs.b p q f).2 l,f⟩
end

section

variable {s:Sh} {σ:Ab} {c x p:Int} {o:Own} {v:PW}

theorem z09(σ:Ab)(p:Int)(v:PW)(q:Int):(σ.page p v).pg q=if q=p then v else σ.pg q:=rfl
theorem za4(σ:Ab)(p:Int)(v:PW):(σ.page p v).pg p=v:=zp8 _ _ _
theorem zbd(σ:Ab){p q:Int}(v:PW)(h:q≠p):(σ.page p v).pg q=σ.pg q:=z6r _ h _
theorem zbs(σ:Ab)(p i:Int)(v:SW):(σ.slot p i v).sl p i=v:=zly _ _ _ _
theorem zbq(σ:Ab){p i q j:Int}(v:SW)(h:¬ (q=p/\j=i)):(σ.slot p i v).sl q j=σ.sl q j:=zv2 _ h _
theorem zcb(σ:Ab)(c i:Int)(v:MW):(σ.mag c i v).mg c i=v:=zly _ _ _ _
theorem zci(σ:Ab){c i d j:Int}(v:MW)(h:¬ (d=c/\j=i)):(σ.mag c i v).mg d j=σ.mg d j:=zv2 _ h _
theorem zbf(σ:Ab)(c:Int)(v:TW):(σ.stat c v).st c=v:=zp8 _ _ _
theorem zao(σ:Ab){c d:Int}(v:TW)(h:d≠c):(σ.stat c v).st d=σ.st d:=z6r _ h _
theorem zvc(h:GI s σ){q g:Int}(b:σ.pg q= .body g):g<q/\q-8<g/\0<=g/\(0<=q/\q<s.p):=by
 have:=h.pf q;rw[b]at this;simp only[PW.fit]at this;omega
theorem zkn(h:GI s σ)(b:σ.pg p= .held c):(0<=p/\p<s.p)/\0<=c/\c<s.c:=by
 have:=h.pf p;rw[b]at this;exact this
theorem zjs(h:GI s σ){k b:Int}(f:σ.pg p= .super k b):(0<=p/\p<s.p)/\(0<=k/\k<=3)/\0<=b/\b<s.c:=by
 have:=h.pf p;rw[f]at this;exact this
theorem zgt(h:GI s σ){n:Int}(b:σ.pg p= .large n):(0<=p/\p<s.p)/\1<=n/\n<=8/\n<=s.p-p:=by
 have:=h.pf p;rw[b]at this;exact this
theorem GI.page(h:GI s σ)(I:v.fit s p)(F:∀ i,zhi v i (σ.sl p i))
  (z:∀ g,v= .body g->(∃ o,σ.pg g= .held o)\/∃ n,σ.pg g= .large n/\p<g+n)
  (hb:∀ q,q≠p->σ.pg q= .body p->(∃ o,v= .held o)\/∃ n,v= .large n/\q<p+n)
  (D:∀ n,v= .large n->∀ j,1<=j->j<n->σ.pg (p+j)= .body p)
  (C:∀ g,σ.pg p= .body g->v= .body g\/∀ n,σ.pg g≠ .large n)
  (E:∀ c j i k,σ.mg c j= .entry p i k->∃ b,v= .super k b):GI s (σ.page p v):=by
 refine⟨fun q=>?_,h.sf,h.mf,h.tf,h.mr,h.tr,fun q i=>?_,fun q g l=>?_,fun q n l j G H=>?_,fun d j q i k B=>?_,h.mi⟩
 ·rw[z09];split
  ·rename_i e;subst e;exact I
  exact h.pf q
 ·rw[z09];split
  ·rename_i e;subst e;exact F i
  exact h.sk q i
 ·by_cases f:q=p
  ·subst f;rw[za4]at l;have r:g≠q:=fun e=>by subst l;simp only[PW.fit]at I;omega
   rw[zbd _ _ r];exact z g l
  rw[zbd _ _ f]at l;by_cases r:g=p
  ·subst r;rw[za4];exact hb q f l
  rw[zbd _ _ r];exact h.bd q g l
 ·by_cases f:q=p
  ·subst f;rw[za4]at l;rw[zbd _ _ (by omega)];exact D n l j G H
  rw[zbd _ _ f]at l;have t:=h.lg q n l j G H;by_cases y:q+j=p
  ·rw[y]at t ⊢;rw[za4];rcases C q t with e|e
   ·exact e
   exact absurd l (e n)
  rw[zbd _ _ y];exact t
 refine⟨?_,(h.mv d j q i k B).2⟩;by_cases f:q=p
 ·subst f;rw[za4];exact E d j i k B
 rw[zbd _ _ f];exact(h.mv d j q i k B).1
theorem GI.slot(h:GI s σ){i:Int}{u:SW}(f:u.fit s)(l:zhi (σ.pg p) i u)(n:∀ c j k,σ.mg c j= .entry p i k->u= .way c):GI s (σ.slot p i u):=by
 refine⟨h.pf,fun q j=>?_,h.mf,h.tf,h.mr,h.tr,fun q j=>?_,h.bd,h.lg,fun d j q y k b=>?_,h.mi⟩
 ·by_cases e:q=p/\j=i
  ·obtain⟨rfl,rfl⟩:=e;rw[zbs];exact f
  rw[zbq _ _ e];exact h.sf q j
 ·by_cases e:q=p/\j=i
  ·obtain⟨rfl,rfl⟩:=e;rw[zbs];exact l
  rw[zbq _ _ e];exact h.sk q j
 refine⟨(h.mv d j q y k b).1,?_⟩;by_cases e:q=p/\y=i
 ·obtain⟨rfl,rfl⟩:=e;rw[zbs];exact n d j k b
 rw[zbq _ _ e];exact(h.mv d j q y k b).2
theorem GI.mag(h:GI s σ){c i:Int}{u:MW}(z:u.fit s)(B:u≠ .none->(0<=c/\c<s.c)/\0<=i/\i<s.m)(C:∀ p j k,u= .entry p j k->(∃ b,σ.pg p= .super k b)/\σ.sl p j= .way c)(hi:∀ p y k r j,u= .entry p y k->σ.mg c j= .entry p y r->j=i):GI s (σ.mag c i u):=by
 refine⟨h.pf,h.sf,fun d j=>?_,h.tf,fun d j t=>?_,h.tr,h.sk,h.bd,h.lg,fun d j q y k l=>?_,fun d j j' q y k r l f=>?_⟩
 ·by_cases e:d=c/\j=i
  ·obtain⟨rfl,rfl⟩:=e;rw[zcb];exact z
  rw[zci _ _ e];exact h.mf d j
 ·by_cases e:d=c/\j=i
  ·obtain⟨rfl,rfl⟩:=e;rw[zcb]at t;exact B t
  rw[zci _ _ e]at t;exact h.mr d j t
 ·by_cases e:d=c/\j=i
  ·obtain⟨rfl,rfl⟩:=e;rw[zcb]at l;exact C q y k l
  rw[zci _ _ e]at l;exact h.mv d j q y k l
 by_cases e:d=c/\j=i
 ·obtain⟨rfl,rfl⟩:=e;rw[zcb]at l;by_cases n:j'=j
  ·exact n.symm
  rw[zci _ _ (fun h=>n h.2)]at f;exact(hi q y k r j' l f).symm
 rw[zci _ _ e]at l;by_cases n:d=c/\j'=i
 ·obtain⟨rfl,rfl⟩:=n;rw[zcb]at f;exact hi q y r k j f l
 rw[zci _ _ n]at f;exact h.mi d j j' q y k r l f
theorem GI.stat(h:GI s σ){u:TW}(b:u.fit s)(f:0<=c/\c<s.c):GI s (σ.stat c u):=by
 refine⟨h.pf,h.sf,h.mf,fun d=>?_,h.mr,fun d hd=>?_,h.sk,h.bd,h.lg,h.mv,h.mi⟩
 ·by_cases e:d=c
  ·subst e;rw[zbf];exact b
  rw[zao _ _ e];exact h.tf d
 by_cases e:d=c
 ·subst e;exact f
 rw[zao _ _ e]at hd;exact h.tr d hd
theorem Same.stat(σ:Ab)(u:TW):Same x σ (σ.stat c u):=⟨fun _=>.rfl,fun _ _ _=>rfl,fun _ _ _=>.rfl,fun _ _ _=>.rfl,fun _=>rfl⟩
theorem Same.page(n:v= .held x↔σ.pg p= .held x)(r:∀ g,σ.pg g= .held x->(v= .body g↔σ.pg p= .body g))(l:∀ i k,σ.sl p i= .way x->((∃ b,v= .super k b)↔∃ b,σ.pg p= .super k b)):Same x σ (σ.page p v):=by
 refine⟨fun q=>?_,fun _ _ _=>rfl,fun q g t=>?_,fun q i k=>?_,fun _=>rfl⟩
 ·by_cases e:q=p
  ·subst e;rw[za4];exact n
  rw[zbd _ _ e]
 ·by_cases e:q=p
  ·subst e;rw[za4];exact r g t
  rw[zbd _ _ e]
 by_cases e:q=p
 ·subst e;rw[za4];constructor
  ·rintro⟨j,f⟩;exact⟨(l i k f).1 j,f⟩
  rintro⟨j,f⟩;exact⟨(l i k f).2 j,f⟩
 rw[zbd _ _ e];exact .rfl
theorem Same.slot{i:Int}{u:SW}(r:σ.pg p≠ .held x)(n:∀ k b,σ.pg p= .super k b->(u= .way x↔σ.sl p i= .way x)):Same x σ (σ.slot p i u):=by
 refine⟨fun _=>.rfl,fun q j t=>?_,fun _ _ _=>.rfl,fun q j k=>?_,fun _=>rfl⟩
 ·by_cases e:q=p/\j=i
  ·exact absurd (e.1 ▸ t) r
  rw[zbq _ _ e]
 by_cases e:q=p/\j=i
 ·obtain⟨rfl,rfl⟩:=e;rw[zbs];constructor
  ·rintro⟨⟨b,f⟩,l⟩;exact⟨⟨b,f⟩,(n k b f).1 l⟩
  rintro⟨⟨b,f⟩,l⟩;exact⟨⟨b,f⟩,(n k b f).2 l⟩
 rw[zbq _ _ e];exact .rfl
theorem Same.mag{i:Int}{u:MW}(h:x≠c):Same x σ (σ.mag c i u):=
 ⟨fun _=>.rfl,fun _ _ _=>rfl,fun _ _ _=>.rfl,fun _ _ _=>.rfl,fun j=>zci _ _ (fun e=>h e.1)⟩
theorem zaz.page{f:Own}(h:zaz σ c o)(D:∀ q,q≠p->(f.h q↔o.h q))(r:f.h p↔v= .held c)
  (E:∀ q g,q≠p->g≠p->(f.b q g↔o.b q g)) (t:∀ g,g≠p->(f.b p g↔v= .body g/\o.h g)) (n:∀ q,q≠p->(f.b q p↔σ.pg q= .body p/\v= .held c)) (y:¬ f.b p p) 
  (B:∀ q i k,q≠p->(f.w q i k↔o.w q i k)) (z:∀ i k,(f.w p i k\/∃ j,σ.mg c j= .entry p i k)↔((∃ b,v= .super k b)/\σ.sl p i= .way c))
  (F:∀ i k j,f.w p i k->σ.mg c j≠ .entry p i k):zaz (σ.page p v) c f:=by
 refine⟨fun q=>?_,fun q g=>?_,fun q i k=>?_,fun q i k j C=>?_⟩
 ·by_cases e:q=p
  ·subst e;rw[za4];exact r.symm
  rw[zbd _ _ e,D q e];exact h.h q
 ·by_cases e:q=p
  ·subst e;rw[za4];by_cases l:g=q
   ·subst l;rw[za4];constructor
    ·rintro⟨a,b⟩;rw[a]at b;cases b
    intro a;exact absurd a y
   rw[zbd _ _ l,t g l,h.h g]
  rw[zbd _ _ e];by_cases l:g=p
  ·subst l;rw[za4];exact(n q e).symm
  rw[zbd _ _ l,E q g e l];exact h.b q g
 ·by_cases e:q=p
  ·subst e;rw[za4];exact(z i k).symm
  rw[zbd _ _ e];exact(h.w q i k).trans (or_congr (B q i k e).symm .rfl)
 by_cases e:q=p
 ·subst e;exact F i k j C
 exact h.d q i k j ((B q i k e).1 C)
theorem zaz.slot{f:Own}{i:Int}{u:SW}(h:zaz σ c o)(r:∀ q,f.h q↔o.h q)(t:∀ q g,f.b q g↔o.b q g)(l:∀ q j k,¬ (q=p/\j=i)->(f.w q j k↔o.w q j k))
  (z:∀ k,(f.w p i k\/∃ j,σ.mg c j= .entry p i k)↔((∃ b,σ.pg p= .super k b)/\u= .way c)) (B:∀ k j,f.w p i k->σ.mg c j≠ .entry p i k):zaz (σ.slot p i u) c f:=by
 refine⟨fun q=>(h.h q).trans (r q).symm,fun q g=>(h.b q g).trans (t q g).symm,fun q j k=>?_,fun q j k y n=>?_⟩
 ·by_cases e:q=p/\j=i
  ·obtain⟨rfl,rfl⟩:=e;rw[zbs];exact(z k).symm
  rw[zbq _ _ e];exact(h.w q j k).trans (or_congr (l q j k e).symm .rfl)
 by_cases e:q=p/\j=i
 ·obtain⟨rfl,rfl⟩:=e;exact B k y n
 exact h.d q j k y ((l q j k e).1 n)
end

section

variable {s:Sh} {σ:Ab} {c p:Int} {o:Own}

def Kept (s:Sh) (c:Int) (σ σ':Ab):Prop:=GI s σ'/\(∀ x,x≠c->Same x σ σ')/\∀ x,σ'.st x=σ.st x
theorem Kept.refl(h:GI s σ):Kept s c σ σ:=⟨h,fun _ _=>Same.refl _ _,fun _=>rfl⟩
theorem zm3(h:GI s σ)(b:σ.pg p= .empty\/(∃ n,σ.pg p= .large n)\/∃ g,σ.pg p= .body g)(i:Int):σ.sl p i= .none:=by
 have:=h.sk p i;rcases b with e|⟨n,e⟩|⟨g,e⟩<;>rw[e]at this<;>exact this
theorem zgg(h:GI s σ)(b:σ.pg p= .held c)(i:Int):σ.sl p i= .none\/(σ.sl p i= .way c/\0<=i/\i<16):=by
 have:=h.sk p i;rw[b]at this;exact this
theorem zov(h:GI s σ){k b:Int}(f:σ.pg p= .super k b)(i:Int):if 0<=i/\i<zah k then σ.sl p i= .opened k\/σ.sl p i= .taken k\/∃ c,σ.sl p i= .way c else σ.sl p i= .none:=by
 have:=h.sk p i;rw[f]at this;exact this
theorem zhs(h:GI s σ){i k:Int}(hs:σ.sl p i= .opened k\/σ.sl p i= .taken k):(∃ b,σ.pg p= .super k b)/\0<=i/\i<zah k:=by
 have:=h.sk p i;cases hp:σ.pg p with
 |super f b=>
  rw[hp]at this;simp only[zhi]at this;split at this
  ·rename_i hi;have e:f=k:=by rcases hs with e|e<;>rw[e]at this<;>exact(by simpa using this:k=f).symm
   subst e;exact⟨⟨b,rfl⟩,hi⟩
  rcases hs with e|e<;>rw[e]at this<;>cases this
 |held o=>rw[hp]at this;simp only[zhi]at this;rcases hs with e|e<;>rw[e]at this<;>simp at this
 |empty=>rw[hp]at this;simp only[zhi]at this;rcases hs with e|e<;>rw[e]at this<;>cases this
 |large n=>rw[hp]at this;simp only[zhi]at this;rcases hs with e|e<;>rw[e]at this<;>cases this
 |body g=>rw[hp]at this;simp only[zhi]at this;rcases hs with e|e<;>rw[e]at this<;>cases this
theorem zke(h:GI s σ){i k b x:Int}(f:σ.pg p= .super k b)(hs:σ.sl p i= .way x):0<=i/\i<zah k:=by
 have:=zov h f i;split at this
 ·assumption
 rw[hs]at this;cases this
theorem zds(h:GI s σ){j i k d:Int}(f:σ.mg d j= .entry p i k):∃ b,σ.pg p= .super k b:=(h.mv d j p i k f).1
theorem zi0(h:GI s σ)(f:σ.pg p= .empty)(l:0<=p/\p<s.p)(hc:0<=c/\c<s.c):Kept s c σ (σ.page p (.held c)):=by
 refine⟨h.page ⟨l,hc⟩ (fun i=>.inl (zm3 h (.inl f) i)) (fun g e=>by cases e) (fun q _ _=>.inl ⟨c,rfl⟩) (fun n e=>by cases e) (fun g e=>by rw[f]at e;cases e) (fun d j i k e=>?_),fun x r=>Same.page ?_ ?_ ?_,fun _=>rfl⟩
 ·obtain⟨b,e⟩:=zds h e;rw[f]at e;cases e
 ·rw[f];simp;exact fun e=>r e.symm
 ·intro g _;rw[f];simp
 intro i k _;rw[f];simp
theorem zh4(h:GI s σ)(f:zaz σ c o)(n:σ.pg p= .empty):zaz (σ.page p (.held c)) c (o.add (.page p)):=by
 have z:¬ o.h p:=fun e=>by have:=(f.h p).2 e;rw[n]at this;cases this
 have l:∀ q,σ.pg q≠ .body p:=fun q e=>by rcases h.bd q p e with⟨_,e⟩|⟨_,e,_⟩<;>rw[n]at e<;>cases e
 refine f.page (fun q r=>?_) ?_ (fun q g r y=>?_) (fun g y=>?_) (fun q r=>?_) ?_ (fun q i k r=>?_) (fun i k=>?_) (fun i k j t=>?_)
 ·simp[Own.add,Own.page,r]
 ·simp[Own.add,Own.page]
 ·simp[Own.add,Own.page]
 ·simp only[Own.add,Own.page,or_false];rw[<-f.b p g,n];simp
 ·simp only[Own.add,Own.page,or_false];rw[<-f.b q p];exact⟨fun e=>absurd e.1 (l q),fun e=>absurd e.1 (l q)⟩
 ·simp only[Own.add,Own.page,or_false];rw[<-f.b p p,n];simp
 ·simp[Own.add,Own.page]
 ·simp only[Own.add,Own.page,or_false];rw[<-f.w p i k,n];simp
 simp only[Own.add,Own.page,or_false]at t;exact f.d p i k j t
theorem zg7(h:GI s σ)(f:σ.pg p= .held c)(hs:∀ i,σ.sl p i= .none)(hb:∀ q,σ.pg q≠ .body p):Kept s c σ (σ.page p .empty):=by
 refine⟨h.page trivial hs (fun g e=>by cases e) (fun q _ e=>absurd e (hb q)) (fun n e=>by cases e) (fun g e=>by rw[f]at e;cases e) (fun d j i k e=>?_),fun x l=>Same.page ?_ ?_ ?_,fun _=>rfl⟩
 ·obtain⟨b,e⟩:=zds h e;rw[f]at e;cases e
 ·rw[f];simp;exact fun e=>l e.symm
 ·intro g _;rw[f];simp
 intro i k _;rw[f];simp
theorem zi1(f:zaz σ c (o.add (.page p)))(t:¬ o.h p)(hb:∀ q,σ.pg q≠ .body p):zaz (σ.page p .empty) c o:=by
 have n:σ.pg p= .held c:=(f.h p).2 (.inr rfl);refine f.page (fun q l=>?_) ?_ (fun q g l r=>?_) (fun g r=>?_) (fun q l=>?_) ?_ (fun q i k l=>?_) (fun i k=>?_) (fun i k j y=>?_)
 ·simp[Own.add,Own.page,l]
 ·simp[t]
 ·simp[Own.add,Own.page]
 ·have:=f.b p g;simp only[Own.add,Own.page,or_false]at this;rw[<-this,n];simp
 ·have:=f.b q p;simp only[Own.add,Own.page,or_false]at this;rw[<-this];exact⟨fun e=>absurd e.1 (hb q),fun e=>absurd e.1 (hb q)⟩
 ·have:=f.b p p;simp only[Own.add,Own.page,or_false]at this;rw[<-this,n];simp
 ·simp[Own.add,Own.page]
 ·have:=f.w p i k;simp only[Own.add,Own.page,or_false]at this;rw[<-this,n];simp
 exact f.d p i k j (.inl y)
theorem zqm(h:GI s σ){g:Int}(f:σ.pg p= .held c)(hs:∀ i,σ.sl p i= .none)(hb:∀ q,σ.pg q≠ .body p)(r:σ.pg g= .held c)(C:g<p/\p-8<g):Kept s c σ (σ.page p (.body g)):=by
 have t:=zkn h f;have B:=zkn h r;refine⟨h.page ⟨t.1,by omega⟩ hs (fun z e=>by injection e with e;subst e;exact .inl ⟨c,r⟩) (fun q _ e=>absurd e (hb q)) (fun n e=>by cases e) (fun g e=>by rw[f]at e;cases e) (fun d j i k e=>?_),fun x y=>Same.page ?_ ?_ ?_,fun _=>rfl⟩
 ·obtain⟨b,e⟩:=zds h e;rw[f]at e;cases e
 ·rw[f];simp;exact fun e=>y e.symm
 ·intro z l;rw[f];simp only[reduceCtorEq,iff_false,PW.body.injEq];intro e;subst e;rw[r]at l;injection l with e;exact y e.symm
 intro i k _;rw[f];simp
theorem zn5{g:Int}(f:zaz σ c (o.add (.page p)))(C:¬ o.h p)(hb:∀ q,σ.pg q≠ .body p)(B:o.h g)(l:g≠p):zaz (σ.page p (.body g)) c (o.add (.bodies g p (p+1))):=by
 have t:σ.pg p= .held c:=(f.h p).2 (.inr rfl);refine f.page (fun q n=>?_) ?_ (fun q y n r=>?_) (fun y r=>?_) (fun q n=>?_) ?_ (fun q i k n=>?_) (fun i k=>?_) (fun i k j z=>?_)
 ·simp[Own.add,Own.page,Own.bodies,n]
 ·simp[Own.add,Own.bodies,C]
 ·simp only[Own.add,Own.page,Own.bodies,or_false];refine⟨fun e=>?_,.inl⟩;rcases e with e|e
  ·exact e
  exact absurd (show q=p by omega) n
 ·have:=f.b p y;simp only[Own.add,Own.page,or_false]at this;simp only[Own.add,Own.bodies,Own.page,PW.body.injEq];rw[<-this,t];simp only[reduceCtorEq,false_and,false_or];constructor
  ·rintro⟨e,_⟩;subst e;exact⟨rfl,.inl B⟩
  rintro⟨e,_⟩;exact⟨e.symm,by omega,by omega⟩
 ·have:=f.b q p;simp only[Own.add,Own.page,or_false]at this;simp only[Own.add,Own.bodies];rw[<-this];constructor
  ·rintro(e|e)
   ·exact absurd e.1 (hb q)
   exact absurd e.1.symm l
  intro e;exact absurd e.1 (hb q)
 ·have:=f.b p p;simp only[Own.add,Own.page,or_false]at this;simp only[Own.add,Own.bodies];rw[<-this,t];simp only[reduceCtorEq,false_and,false_or];exact fun e=>l e.1.symm
 ·simp[Own.add,Own.page,Own.bodies]
 ·have:=f.w p i k;simp only[Own.add,Own.page,or_false]at this;simp only[Own.add,Own.bodies,or_false];rw[<-this,t];simp
 simp only[Own.add,Own.bodies,or_false]at z;exact f.d p i k j (.inl z)
theorem zjz(h:GI s σ){g:Int}(f:σ.pg p= .body g)(y:σ.pg g= .held c):Kept s c σ (σ.page p .empty):=by
 have r:∀ q,σ.pg q≠ .body p:=fun q e=>by rcases h.bd q p e with⟨_,e⟩|⟨_,e,_⟩<;>rw[f]at e<;>cases e
 refine⟨h.page trivial (fun i=>zm3 h (.inr (.inr ⟨g,f⟩)) i) (fun g e=>by cases e) (fun q _ e=>absurd e (r q)) (fun n e=>by cases e) (fun z e=>.inr fun n t=>?_) (fun d j i k e=>?_),fun x B=>Same.page ?_ ?_ ?_,fun _=>rfl⟩
 ·rw[f]at e;injection e with e;subst e;rw[y]at t;cases t
 ·obtain⟨b,e⟩:=zds h e;rw[f]at e;cases e
 ·rw[f];simp
 ·intro z l;rw[f];simp only[reduceCtorEq,false_iff,PW.body.injEq];intro e;subst e;rw[y]at l;injection l with e;exact B e.symm
 intro i k _;rw[f];simp
theorem zoe(h:GI s σ){g:Int}(f:zaz σ c (o.add (.bodies g p (p+1))))(B:∀ g,¬ o.b p g):zaz (σ.page p .empty) c o:=by
 have y:σ.pg p= .body g/\σ.pg g= .held c:=(f.b p g).2 (.inr ⟨rfl,Int.le_refl _,by omega⟩);have n:=y.1;have l:∀ q,σ.pg q≠ .body p:=fun q e=>by rcases h.bd q p e with⟨_,e⟩|⟨_,e,_⟩<;>rw[n]at e<;>cases e
 have C:g≠p:=fun e=>by have:=zvc h n;omega
 refine f.page (fun q r=>?_) ?_ (fun q z r t=>?_) (fun z t=>?_) (fun q r=>?_) ?_ (fun q i k r=>?_) (fun i k=>?_) (fun i k j D=>?_)
 ·simp[Own.add,Own.bodies]
 ·have:=f.h p;simp only[Own.add,Own.bodies,or_false]at this;rw[<-this,n];simp
 ·simp only[Own.add,Own.bodies];refine⟨.inl,fun e=>?_⟩;rcases e with e|e
  ·exact e
  exact absurd (show q=p by omega) r
 ·simp[B z]
 ·have:=f.b q p;simp only[Own.add,Own.bodies]at this;constructor
  ·intro e;exact absurd (this.2 (.inl e)).1 (l q)
  intro e;exact absurd e.1 (l q)
 ·exact B p
 ·simp[Own.add,Own.bodies]
 ·have:=f.w p i k;simp only[Own.add,Own.bodies,or_false]at this;rw[<-this,n];simp
 exact f.d p i k j (.inl D)
theorem zlp(h:GI s σ){n:Int}(f:σ.pg p= .held c)(hs:∀ i,σ.sl p i= .none)(y:1<=n/\n<=8/\n<=s.p-p)(hb:∀ j,1<=j->j<n->σ.pg (p+j)= .body p)(t:∀ q,σ.pg q= .body p->q<p+n):Kept s c σ (σ.page p (.large n)):=by
 have l:=zkn h f;refine⟨h.page ⟨l.1,y⟩ hs (fun r e=>by cases e) (fun q _ e=>.inr ⟨n,rfl,t q e⟩) (fun B e=>by injection e with e;subst e;exact hb) (fun g e=>by rw[f]at e;cases e) (fun d j i k e=>?_),fun x z=>Same.page ?_ ?_ ?_,fun _=>rfl⟩
 ·obtain⟨b,e⟩:=zds h e;rw[f]at e;cases e
 ·rw[f];simp;exact fun e=>z e.symm
 ·intro r _;rw[f];simp
 intro i k _;rw[f];simp
theorem zkr{n:Int}(f:zaz σ c ((o.add (.page p)).add (.bodies p (p+1) (p+n))))(z:¬ o.h p)(hb:∀ q,¬ o.b q p):zaz (σ.page p (.large n)) c o:=by
 have y:σ.pg p= .held c:=(f.h p).2 (.inl (.inr rfl));refine f.page (fun q r=>?_) ?_ (fun q t r l=>?_) (fun t l=>?_) (fun q r=>?_) ?_ (fun q i k r=>?_) (fun i k=>?_) (fun i k j B=>?_)
 ·simp[Own.add,Own.page,Own.bodies,r]
 ·simp[z]
 ·simp[Own.add,Own.page,Own.bodies,l]
 ·have:=f.b p t;simp only[Own.add,Own.page,Own.bodies,or_false]at this;simp only[reduceCtorEq,false_and,iff_false];intro e;have:=this.2 (.inl e);rw[y]at this;cases this.1
 ·simp[hb q]
 ·exact hb p
 ·simp[Own.add,Own.page,Own.bodies]
 ·have:=f.w p i k;simp only[Own.add,Own.page,Own.bodies,or_false]at this;rw[<-this,y];simp
 exact f.d p i k j (.inl (.inl B))
theorem zmq(h:GI s σ){n:Int}(f:σ.pg p= .large n)(hc:0<=c/\c<s.c):Kept s c σ (σ.page p (.held c)):=by
 have l:=zgt h f;refine⟨h.page ⟨l.1,hc⟩ (fun i=>.inl (zm3 h (.inr (.inl ⟨n,f⟩)) i)) (fun r e=>by cases e) (fun q _ e=>.inl ⟨c,rfl⟩) (fun y e=>by cases e) (fun g e=>by rw[f]at e;cases e) (fun d j i k e=>?_),fun x t=>Same.page ?_ ?_ ?_,fun _=>rfl⟩
 ·obtain⟨b,e⟩:=zds h e;rw[f]at e;cases e
 ·rw[f];simp;exact fun e=>t e.symm
 ·intro r _;rw[f];simp
 intro i k _;rw[f];simp
theorem zlv(h:GI s σ){n:Int}(t:zaz σ c o)(r:σ.pg p= .large n):zaz (σ.page p (.held c)) c ((o.add (.page p)).add (.bodies p (p+1) (p+n))):=by
 have E:¬ o.h p:=fun e=>by have:=(t.h p).2 e;rw[r]at this;cases this
 have y:∀ q,¬ o.b q p:=fun q e=>by have:=((t.b q p).2 e).2;rw[r]at this;cases this
 refine t.page (fun q z=>?_) ?_ (fun q B z l=>?_) (fun B l=>?_) (fun q z=>?_) ?_ (fun q i k z=>?_) (fun i k=>?_) (fun i k j C=>?_)
 ·simp[Own.add,Own.page,Own.bodies,z]
 ·simp[Own.add,Own.page,Own.bodies]
 ·simp[Own.add,Own.page,Own.bodies,l]
 ·simp only[Own.add,Own.page,Own.bodies,or_false];have:=t.b p B;rw[r]at this;simp only[reduceCtorEq,false_and,false_iff]at this;simp[this,l]
 ·simp only[Own.add,Own.page,Own.bodies,or_false,true_and,and_true];constructor
  ·rintro(e|e)
   ·exact absurd e (y q)
   have:=h.lg p n r (q-p) (by omega) (by omega);rwa [show p+(q-p)=q by omega]at this
  intro e;have F:=zvc h e;rcases h.bd q p e with⟨_,f⟩|⟨G,f,D⟩
  ·rw[r]at f;cases f
  rw[r]at f;injection f with f;subst f;exact .inr ⟨by omega,D⟩
 ·simp only[Own.add,Own.page,Own.bodies,or_false];rintro(e|e)
  ·exact y p e
  omega
 ·simp[Own.add,Own.page,Own.bodies]
 ·simp only[Own.add,Own.page,Own.bodies,or_false];rw[<-t.w p i k,r];simp
 simp only[Own.add,Own.page,Own.bodies,or_false]at C;exact t.d p i k j C
theorem zgw(h:GI s σ){i:Int}{u:SW}(f:σ.pg p= .held c)(hu:u= .none\/(u= .way c/\0<=i/\i<16)):Kept s c σ (σ.slot p i u):=by
 have l:=zkn h f;refine⟨h.slot ?_ (by rw[f];exact hu) (fun d j k e=>?_),fun x n=>Same.slot (by rw[f];simp;exact fun e=>n e.symm) (fun k b e=>by rw[f]at e;cases e),fun _=>rfl⟩
 ·rcases hu with rfl|⟨rfl,_⟩
  ·trivial
  exact l.2
 obtain⟨b,e⟩:=zds h e;rw[f]at e;cases e
theorem ziy{i x:Int}{u:SW}(b:zaz σ c o)(f:σ.pg p= .held x):zaz (σ.slot p i u) c o:=by
 refine b.slot (fun _=>.rfl) (fun _ _=>.rfl) (fun _ _ _ _=>.rfl) (fun k=>?_) (fun k j l=>b.d p i k j l);rw[<-b.w p i k,f];simp
theorem zpg(h:GI s σ){k:Int}(l:σ.pg p= .held c)(t:0<=k/\k<=3)(hs:∀ i,σ.sl p i=if 0<=i/\i<zah k then .way c else .none)(hb:∀ q,σ.pg q≠ .body p):Kept s c σ (σ.page p (.super k c)):=by
 have f:=zkn h l;refine⟨h.page ⟨f.1,t,f.2⟩ (fun i=>?_) (fun r e=>by cases e) (fun q _ e=>absurd e (hb q)) (fun z e=>by cases e) (fun g e=>by rw[l]at e;cases e) (fun d j i k e=>?_),fun x n=>Same.page ?_ ?_ ?_,fun _=>rfl⟩
 ·rw[hs i];simp only[zhi];split
  ·exact .inr (.inr ⟨c,rfl⟩)
  rfl
 ·obtain⟨b,e⟩:=zds h e;rw[l]at e;cases e
 ·rw[l];simp;exact fun e=>n e.symm
 ·intro r _;rw[l];simp
 intro i y e;rw[hs i]at e;split at e
 ·injection e with e;exact absurd e.symm n
 cases e
theorem zn3(h:GI s σ){k b:Int}(l:zaz σ c (o.add (.page p)))(E:¬ o.h p)(hs:∀ i,σ.sl p i=if 0<=i/\i<zah k then .way c else .none)(hb:∀ q,σ.pg q≠ .body p):zaz (σ.page p (.super k b)) c (o.add (.ways p (zah k) k)):=by
 have y:σ.pg p= .held c:=(l.h p).2 (.inr rfl);have r:∀ d j i f,σ.mg d j≠ .entry p i f:=fun d j i f e=>by obtain⟨b,e⟩:=zds h e;rw[y]at e;cases e
 have B:∀ i f,¬ o.w p i f:=fun i f e=>by have:=(l.w p i f).2 (.inl (.inl e));rw[y]at this;obtain⟨⟨_,e⟩,_⟩:=this;cases e
 refine l.page (fun q t=>?_) ?_ (fun q D t z=>?_) (fun D z=>?_) (fun q t=>?_) ?_ (fun q i k t=>?_) (fun i f=>?_) (fun i k j G=>r _ _ _ _)
 ·simp[Own.add,Own.page,Own.ways,t]
 ·simp[Own.add,Own.ways,E]
 ·simp[Own.add,Own.page,Own.ways]
 ·have:=l.b p D;simp only[Own.add,Own.page,or_false]at this;simp only[Own.add,Own.ways,or_false];rw[<-this,y];simp
 ·have:=l.b q p;simp only[Own.add,Own.page,or_false]at this;simp only[Own.add,Own.ways,or_false];rw[<-this];exact⟨fun e=>absurd e.1 (hb q),fun e=>absurd e.1 (hb q)⟩
 ·have:=l.b p p;simp only[Own.add,Own.page,or_false]at this;simp only[Own.add,Own.ways,or_false];rw[<-this,y];simp
 ·simp[Own.add,Own.page,Own.ways,t]
 simp only[Own.add,Own.ways,B,false_or,true_and];rw[hs i];constructor
 ·rintro(⟨n,rfl⟩|⟨j,e⟩)
  ·exact⟨⟨b,rfl⟩,by rw[if_pos n]⟩
  exact absurd e (r _ _ _ _)
 rintro⟨⟨F,n⟩,C⟩;injection n with n _;split at C
 ·rename_i hi;exact .inl ⟨hi,n.symm⟩
 cases C
theorem zn2(h:GI s σ){k b:Int}(t:σ.pg p= .super k b)(hc:0<=c/\c<s.c)(hs:∀ i,0<=i->i<zah k->σ.sl p i= .way c)(D:∀ j i y,σ.mg c j≠ .entry p i y):Kept s c σ (σ.page p (.held c)):=by
 have z:=zjs h t;have l:∀ i,(0<=i/\i<zah k/\σ.sl p i= .way c)\/σ.sl p i= .none:=fun i=>by
  have:=zov h t i;split at this
  ·rename_i hi;exact .inl ⟨hi.1,hi.2,hs i hi.1 hi.2⟩
  exact .inr this
 have E:=zcy k;refine⟨h.page ⟨z.1,hc⟩ (fun i=>?_) (fun C e=>by cases e) (fun q _ e=>.inl ⟨c,rfl⟩) (fun I e=>by cases e) (fun g e=>by rw[t]at e;cases e) (fun d j i y e=>?_),fun x B=>Same.page ?_ ?_ ?_,fun _=>rfl⟩
 ·rcases l i with⟨f,H,r⟩|f
  ·exact .inr ⟨r,f,by omega⟩
  exact .inl f
 ·exfalso;obtain⟨⟨F,G⟩,n⟩:=h.mv d j p i y e;rcases l i with⟨_,_,r⟩|f
  ·rw[r]at n;injection n with n;subst n;exact D j i y e
  rw[f]at n;cases n
 ·rw[t];simp;exact fun e=>B e.symm
 ·intro C _;rw[t];simp
 intro i y e;rcases l i with⟨_,_,r⟩|f
 ·rw[r]at e;injection e with e;exact absurd e.symm B
 rw[f]at e;cases e
theorem znl(h:GI s σ){k b:Int}(l:zaz σ c (o.add (.ways p (zah k) k)))(t:σ.pg p= .super k b)(C:∀ i f,¬ o.w p i f)(B:∀ j i f,σ.mg c j≠ .entry p i f):zaz (σ.page p (.held c)) c (o.add (.page p)):=by
 have D:¬ o.h p:=fun e=>by have:=(l.h p).2 (.inl e);rw[t]at this;cases this
 have n:∀ q,σ.pg q≠ .body p:=fun q e=>by rcases h.bd q p e with⟨_,e⟩|⟨_,e,_⟩<;>rw[t]at e<;>cases e
 refine l.page (fun q r=>?_) ?_ (fun q z r y=>?_) (fun z y=>?_) (fun q r=>?_) ?_ (fun q i k r=>?_) (fun i f=>?_) (fun i f j E=>B _ _ _)
 ·simp[Own.add,Own.page,Own.ways,r]
 ·simp[Own.add,Own.page]
 ·simp[Own.add,Own.page,Own.ways]
 ·have:=l.b p z;simp only[Own.add,Own.ways,or_false]at this;simp only[Own.add,Own.page,or_false];rw[<-this,t];simp
 ·have:=l.b q p;simp only[Own.add,Own.ways,or_false]at this;simp only[Own.add,Own.page,or_false];rw[<-this];exact⟨fun e=>absurd e.1 (n q),fun e=>absurd e.1 (n q)⟩
 ·have:=l.b p p;simp only[Own.add,Own.ways,or_false]at this;simp only[Own.add,Own.page,or_false];rw[<-this,t];simp
 ·simp[Own.add,Own.page,Own.ways,r]
 simp only[Own.add,Own.page,or_false];constructor
 ·rintro(e|⟨j,e⟩)
  ·exact absurd e (C i f)
  exact absurd e (B _ _ _)
 rintro⟨⟨_,e⟩,_⟩;cases e
theorem zf3(h:GI s σ){i k b:Int}(n:σ.pg p= .super k b)(hs:σ.sl p i= .opened k\/σ.sl p i= .taken k)(hc:0<=c/\c<s.c):Kept s c σ (σ.slot p i (.way c)):=by
 have f:=(zhs h hs).2;refine⟨h.slot hc (by rw[n];simp only[zhi];rw[if_pos f];exact .inr (.inr ⟨c,rfl⟩)) (fun d j q e=>?_),fun x r=>Same.slot (by rw[n];simp) (fun q t e=>?_),fun _=>rfl⟩
 ·have:=(h.mv d j p i q e).2;rcases hs with e|e<;>rw[e]at this<;>cases this
 constructor
 ·intro e;injection e with e;exact absurd e.symm r
 intro e;rcases hs with l|l<;>rw[l]at e<;>cases e
theorem zfc(h:GI s σ){i k b:Int}(r:zaz σ c o)(t:σ.pg p= .super k b)(hs:σ.sl p i= .opened k\/σ.sl p i= .taken k):zaz (σ.slot p i (.way c)) c (o.add (.way p i k)):=by
 have l:∀ j f,σ.mg c j≠ .entry p i f:=fun j f e=>by have:=(h.mv c j p i f e).2;rcases hs with e|e<;>rw[e]at this<;>cases this
 have n:∀ f,¬ o.w p i f:=fun f e=>by have:=((r.w p i f).2 (.inl e)).2;rcases hs with e|e<;>rw[e]at this<;>cases this
 refine r.slot (fun _=>?_) (fun _ _=>?_) (fun q j f y=>?_) (fun f=>?_) (fun f j B=>l _ _)
 ·simp[Own.add,Own.way]
 ·simp[Own.add,Own.way]
 ·simp only[Own.add,Own.way];exact⟨fun e=>e.elim id fun e=>absurd ⟨e.1,e.2.1⟩ y,.inl⟩
 simp only[Own.add,Own.way,n,false_or,true_and,and_true];rw[t];constructor
 ·rintro(rfl|⟨j,e⟩)
  ·exact⟨b,rfl⟩
  exact absurd e (l _ _)
 rintro⟨z,e⟩;injection e with e _;exact .inl e.symm
theorem zc6(h:GI s σ){i k b:Int}{u:SW}(l:σ.pg p= .super k b)(hs:σ.sl p i= .way c)(hu:u= .opened k\/u= .taken k)(r:∀ j f,σ.mg c j≠ .entry p i f):Kept s c σ (σ.slot p i u):=by
 have n:=zjs h l;have t:=zke h l hs;refine⟨h.slot (by rcases hu with rfl|rfl<;>exact n.2.1) (by rw[l];simp only[zhi];rw[if_pos t];exact hu.elim .inl fun e=>.inr (.inl e)) (fun d j f e=>?_),fun x y=>Same.slot (by rw[l];simp) (fun f z e=>?_),fun _=>rfl⟩
 ·have:=(h.mv d j p i f e).2;rw[hs]at this;injection this with q;subst q;exact absurd e (r j f)
 rw[hs];constructor
 ·intro e;rcases hu with rfl|rfl<;>cases e
 intro e;injection e with e;exact absurd e.symm y
theorem zdd{i k b:Int}{u:SW}(r:zaz σ c (o.add (.way p i k)))(y:∀ f,¬ o.w p i f)(z:σ.pg p= .super k b)(hu:u= .opened k\/u= .taken k):zaz (σ.slot p i u) c o:=by
 have l:∀ j f,σ.mg c j≠ .entry p i f:=fun j f e=>by have t:=(r.w p i f).2 (.inr ⟨j,e⟩);obtain⟨⟨C,n⟩,_⟩:=t;rw[z]at n;injection n with n _;subst n;exact r.d p i k j (.inr ⟨rfl,rfl,rfl⟩) e
 refine r.slot (fun _=>?_) (fun _ _=>?_) (fun q j f B=>?_) (fun f=>?_) (fun f j D=>l _ _)
 ·simp[Own.add,Own.way]
 ·simp[Own.add,Own.way]
 ·simp only[Own.add,Own.way];exact⟨.inl,fun e=>e.elim id fun e=>absurd ⟨e.1,e.2.1⟩ B⟩
 constructor
 ·rintro(e|⟨j,e⟩)
  ·exact absurd e (y f)
  exact absurd e (l _ _)
 rintro⟨_,e⟩;rcases hu with rfl|rfl<;>cases e
theorem znc{i k b:Int}(n:zaz σ c (o.add (.way p i k)))(r:σ.pg p= .super k b):∀ j l,σ.mg c j≠ .entry p i l:=fun j l e=>by
 have q:=(n.w p i l).2 (.inr ⟨j,e⟩)
 obtain⟨⟨t,f⟩,_⟩:=q
 rw[r]at f
 injection f with f _
 subst f
 exact n.d p i k j (.inr ⟨rfl,rfl,rfl⟩) e
theorem zqp(h:GI s σ){j i k b:Int}(r:σ.pg p= .super k b)(hs:σ.sl p i= .way c)(B:∀ j t,σ.mg c j≠ .entry p i t)(z:0<=j/\j<s.m):Kept s c σ (σ.mag c j (.entry p i k)):=by
 have f:=zjs h r;have C:=zke h r hs;have hc:0<=c/\c<s.c:=by have:=h.sf p i;rw[hs]at this;exact this
 refine⟨h.mag ⟨f.1,f.2.1,C⟩ (fun _=>⟨hc,z⟩) (fun F H t e=>?_) (fun F y t E j' e n=>?_),fun x D=>Same.mag D,fun _=>rfl⟩
 ·injection e with l n q;subst l n q;exact⟨⟨b,r⟩,hs⟩
 injection e with l q G;subst l q;exact absurd n (B _ _)
theorem zn8{j i k b:Int}(f:zaz σ c (o.add (.way p i k)))(C:∀ l,¬ o.w p i l)(E:σ.pg p= .super k b)(B:σ.mg c j= .none):zaz (σ.mag c j (.entry p i k)) c o:=by
 have D:=znc f E;refine⟨fun q=>(f.h q).trans (by simp[Own.add,Own.way]),fun q g=>(f.b q g).trans (by simp[Own.add,Own.way]),fun q y l=>(f.w q y l).trans ?_,fun q y l j' z=>?_⟩
 ·simp only[Own.add,Own.way];constructor
  ·rintro((e|⟨rfl,rfl,rfl⟩)|⟨j',e⟩)
   ·exact .inl e
   ·exact .inr ⟨j,zcb _ _ _ _⟩
   refine .inr ⟨j',?_⟩;rw[zci _ _ (fun h=>by rw[h.2,B]at e;cases e)];exact e
  rintro(e|⟨j',e⟩)
  ·exact .inl (.inl e)
  by_cases h:j'=j
  ·subst h;rw[zcb]at e;injection e with n r t;exact .inl (.inr ⟨n.symm,r.symm,t.symm⟩)
  rw[zci _ _ (fun e=>h e.2)]at e;exact .inr ⟨j',e⟩
 by_cases h:j'=j
 ·subst h;rw[zcb];intro e;injection e with n r t;subst n r t;exact C _ z
 rw[zci _ _ (fun e=>h e.2)];exact f.d q y l j' (.inl z)
theorem zi4(h:GI s σ){j:Int}:Kept s c σ (σ.mag c j .none):=
 ⟨h.mag trivial (fun e=>absurd rfl e) (fun l q f e=>by cases e) (fun l y f i j' e n=>by cases e),fun x b=>Same.mag b,fun _=>rfl⟩
theorem znd(h:GI s σ){j i k:Int}(l:zaz σ c o)(r:σ.mg c j= .entry p i k):zaz (σ.mag c j .none) c (o.add (.way p i k)):=by
 refine⟨fun q=>(l.h q).trans (by simp[Own.add,Own.way]),fun q g=>(l.b q g).trans (by simp[Own.add,Own.way]),fun q y f=>(l.w q y f).trans ?_,fun q y f j' t=>?_⟩
 ·simp only[Own.add,Own.way];constructor
  ·rintro(e|⟨j',e⟩)
   ·exact .inl (.inl e)
   by_cases h:j'=j
   ·subst h;rw[r]at e;injection e with z B C;exact .inl (.inr ⟨z.symm,B.symm,C.symm⟩)
   exact .inr ⟨j',by rw[zci _ _ (fun e=>h e.2)];exact e⟩
  rintro((e|⟨rfl,rfl,rfl⟩)|⟨j',e⟩)
  ·exact .inl e
  ·exact .inr ⟨j,r⟩
  by_cases h:j'=j
  ·subst h;rw[zcb]at e;cases e
  rw[zci _ _ (fun e=>h e.2)]at e;exact .inr ⟨j',e⟩
 by_cases n:j'=j
 ·subst n;rw[zcb];intro e;cases e
 rw[zci _ _ (fun e=>n e.2)];rcases t with t|⟨rfl,rfl,rfl⟩
 ·exact l.d q y f j' t
 intro e;exact n (h.mi c j' j q y f f e r)
end

end Go.Proofs.YtkbddndcegpllaaGreat
