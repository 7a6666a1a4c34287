/- Texts bound together: AudRs Open RwO EvP EvR GrdW WdsW AudP AudC. -/
import Derived.ProofKit

import Derived.OpenShut

import Derived.SizedLaws

import Derived.ChangeSlices

import Derived.Defers

import Derived.Recover

import Derived.Test.YtkbddndcegpllaaGreatBt7

set_option linter.all false
namespace Go.Proofs.YtkbddndcegpllaaGreat

attribute [local go_sem] rowW zio

section

open Go.RowKit

theorem zfz(x:Int)(w:World)(o:0<=x)(p:x<18446744073709551616):
  Calls Tryz.prog 97 #[.int .u64 x] w fun e w'=>Below w.heap.size w w'/\e= .returned (.tuple (if (za8 (zbx x) (za2 x 0)==x)=true then #[.int .i64 (zbx x),.int .i64 (za2 x 0)] else #[.int .i64 0,.int .i64 0])):=by
 have l:=fun w=>ze8 x 0 w o p (by omega);have j:=fun w=>zqi x w o p;generalize zbx x=k at *;generalize za2 x 0=A at *;by_cases b:za8 k A=x
 ·have m:(za8 k A !=x)=false:=by simpa using b
  have i:(za8 k A==x)=true:=by simpa using b
  rw[i,if_pos rfl];clear b i;go_in;go_wp2_with (first|(go_at_call 138;refine(j _).mono ?_;rintro e n ⟨rfl,rfl⟩)|(go_at_call 139;refine(l _).mono ?_;rintro e n ⟨rfl,rfl⟩)|(go_at_call 117;refine(zgn _ _ _).mono ?_;rintro e q ⟨rfl,hb⟩));go_ret2;exact⟨hb,rfl⟩
 have m:(za8 k A !=x)=true:=by simpa using b
 have i:(za8 k A==x)=false:=by simpa using b
 rw[i,if_neg Bool.false_ne_true];clear b i;go_in;go_wp2_with (first|(go_at_call 138;refine(j _).mono ?_;rintro e n ⟨rfl,rfl⟩)|(go_at_call 139;refine(l _).mono ?_;rintro e n ⟨rfl,rfl⟩)|(go_at_call 117;refine(zgn _ _ _).mono ?_;rintro e q ⟨rfl,hb⟩));go_ret2;exact⟨hb,rfl⟩
end

section

open Go.RowKit Go.ChangeShapes Go.WideShapes Go.ChangeAt

theorem own:ownKnob Tryz.prog.godebug=none:=by kernel_rfl
theorem laidOut:laidOutB Tryz.prog=true:=by kernel_rfl
section

variable {H:Type} {enc:TypeId × Value->H} {P:Program} {w:World}

def Rd (enc:TypeId × Value->H) (P:Program) (w:World) (t:TypeId) (cs:List Value):Prop:=∃ fuel x,DataW.trod enc P w 0 (fun _=> true) true fuel t cs=some x
theorem zom{t:TypeId}{v:Value}{d:DataW H}{ps:List MemPlace}(h:DataW.Trod enc P w 0 (fun _=>true) true t v d ps):Rd enc P w t v.cells.toList:=
 let ⟨f,hf⟩:=h
 ⟨f,_,hf⟩
theorem zj9{t:TypeId}{k:IntKind}{cs:List Value}(l:P.underlying t=some (.int k))(h:Rd enc P w t cs):∃ n,cs= [.int k n]/\(Lit.int k n).wf=true:=by
 obtain⟨f,x,j⟩:=h;obtain⟨n,b,_,i⟩:=DataW.trod_int l j;exact⟨n,b,i⟩
theorem yf4{t:TypeId}{cs:List Value}(l:P.underlying t=some .bool)(h:Rd enc P w t cs):∃ b,cs= [.bool b]:=by
 obtain⟨f,x,j⟩:=h;obtain⟨b,i,_⟩:=DataW.trod_bool l j;exact⟨b,i⟩
theorem z7d{t:TypeId}{k:FloatKind}{cs:List Value}(j:P.underlying t=some (.float k))(h:Rd enc P w t cs):∃ b,cs= [.float k b]/\(Lit.float k b).wf=true:=by
 obtain⟨f,x,i⟩:=h;cases f with
 |zero=>simp[DataW.trod]at i;|succ n=>unfold DataW.trod at i;rw[j]at i;split at i<;>simp_all
theorem zmz{t:TypeId}{fs:Array Field}{cs:List Value}(p:P.underlying t=some (.struct fs))(h:Rd enc P w t cs):
  cs.length=P.cellsOf t/\∀ (i:Nat) (f:Field),fs[i]?=some f->Rd enc P w f.type ((cs.drop f.offset).take (P.cellsOf f.type)):=by
 obtain⟨f,x,o⟩:=h;obtain⟨xs,m,_,_,j,l,n⟩:=DataW.trod_struct p o;refine⟨j,fun i f hi=>?_⟩;have b:i<xs.length:=by rw[l];exact(Array.getElem?_eq_some_iff.1 hi).1
 have:=n i f hi;rw[List.getElem?_eq_getElem b]at this;exact⟨m,_,this⟩
theorem mapM_each{b n:Type}{f:b->Option n}{l:List b}{r:List n}(h:l.mapM f=some r)(i:Nat)(x:b)(m:l[i]?=some x):∃ y,f x=some y:=by
 have j:=mapM_some_get h i x m;have o:=mapM_some_length h;have p:i<l.length:=(List.getElem?_eq_some_iff.1 m).1;rw[List.getElem?_eq_getElem (by omega)]at j;exact⟨_,j⟩
theorem zxe{t e:TypeId}{cs:List Value}(s:P.underlying t=some (.slice e))(h:Rd enc P w t cs):
  cs= [.slice none 0 0]\/∃ (a:Addr) (len cap:Nat),cs= [.slice (some a) len cap]/\len<=cap/\cap<=maxLen/\
   ∀ i,i<cap->∃ es,w.cells? 0 (a.add (i*P.cellsOf e)) (P.cellsOf e)=some es/\Rd enc P w e es:=by
 obtain⟨f,x,b⟩:=h;cases f with
 |zero=>simp[DataW.trod]at b;|succ n=>
  unfold DataW.trod at b;rw[s]at b;split at b<;>(try (simp_all;done));rename_i B a len cap j;injection j with j;injection j with j;subst j;right;dsimp only at b;by_cases hc:0<=a.block/\len<=cap/\cap<=maxLen;case neg=>rw[if_neg hc]at b;cases b
  rw[if_pos hc]at b;simp only[Option.bind_eq_some_iff,Option.map_eq_some_iff,if_true]at b;obtain⟨l,m,rest,o,_⟩:=b;refine⟨a,len,cap,rfl,hc.2.1,hc.2.2,fun i hi=>?_⟩;have key:∃ y,(w.cells? 0 (a.add (i*P.cellsOf e)) (P.cellsOf e)).bind (DataW.trod enc P w 0 (fun _=>true) true n e)=some y:=by
   by_cases r:i<len
   ·exact mapM_each m i i (by rw[List.getElem?_range r])
   have:=mapM_each o (i-len) (i-len) (by rw[List.getElem?_range (by omega)]);rwa [show len+(i-len)=i from by omega]at this
  obtain⟨y,z⟩:=key;obtain⟨es,p,q⟩:=Option.bind_eq_some_iff.1 z;exact⟨es,p,n,y,q⟩
theorem zw7{a:Addr}{n:Nat}{es:List Value}(h:w.cells? 0 a n=some es):es.length=n/\∀ j,j<n->w.cell? (a.add j)=es[j]?:=by
 unfold World.cells? at h;split at h
 ·have b:=mapM_some_length h;simp at b;exact⟨b,fun j f=>mapM_some_get h j j (by simp[f])⟩
 cases h
theorem ydb{r:Reach}{f:Nat}{t:TypeId}{v:Value}(b:(∃ fs,P.underlying t=some (.struct fs))\/∃ n e,P.underlying t=some (.array n e))(h:Value.okWide P w r f t v):∃ cs,v= .agg cs:=by
 rcases b with⟨fs,b⟩|⟨n,e,b⟩<;>(simp only[Value.okWide,b]at h;obtain⟨cs,i,_⟩:=h;exact⟨cs,i⟩)
theorem ye6{f:Type}{l:List f}(h:l.length=3):∃ a b c,l= [a,b,c]:=by
 match l,h with
 | [a,b,c],_=>exact⟨a,b,c,rfl⟩
theorem z3u{r:Reach}{q:Nat}{t:TypeId}{k:IntKind}{f f1 f2:Field}{v:Value}{d:DataW H}{ps:List MemPlace}(p:P.underlying t=some (.struct #[f,f1,f2]))
  (F:P.underlying f.type=some (.int k)) (G:P.underlying f1.type=some (.int k)) (I:P.underlying f2.type=some (.int k)) (c0:P.cellsOf f.type=1) (c1:P.cellsOf f1.type=1) (c2:P.cellsOf f2.type=1)
  (C:f.offset=0) (D:f1.offset=1) (E:f2.offset=2) (s:P.cellsOf t=3) (B:Value.okWide P w r q t v) (h:DataW.Trod enc P w 0 (fun _=>true) true t v d ps):
  ∃ a b c:Int,v= .agg #[.int k a,.int k b,.int k c]/\(Lit.int k a).wf=true/\(Lit.int k b).wf=true/\(Lit.int k c).wf=true:=by
 obtain⟨cs,rfl⟩:=ydb (.inl ⟨_,p⟩) B;obtain⟨o,j⟩:=zmz p (zom h);rw[s]at o;obtain⟨x,y,z,i⟩:=ye6 o;have g0:=j 0 f rfl;have l:=j 1 f1 rfl;have m:=j 2 f2 rfl;rw[i,C,c0]at g0;rw[i,D,c1]at l;rw[i,E,c2]at m;obtain⟨a,n,J⟩:=zj9 F g0;obtain⟨b,hb,L⟩:=zj9 G l;obtain⟨c,hc,wc⟩:=zj9 I m;simp only[List.drop_zero,List.take_succ_cons,List.take_zero,List.cons.injEq,and_true,List.drop_succ_cons]at n hb hc;subst n hb hc;refine⟨a,b,c,?_,J,L,wc⟩;congr 1;exact Array.toList_inj.1 (by simpa[Value.cells] using i)
theorem z2c{t e:TypeId}{a0:Option Addr}{len cap sz:Nat}(G:P.underlying t=some (.slice e))(ce:P.cellsOf e=sz)(n:0<sz)(h:Rd enc P w t (Value.slice a0 len cap).cells.toList)(I:len≠0):
  ∃ b f:Nat,a0=some ⟨b,f,.none⟩/\b<w.heap.size/\len<=cap/\cap<=maxLen/\
   ∀ i,i<cap->∃ es,es.length=sz/\Rd enc P w e es/\∀ j,j<sz->w.cell? ⟨b,f+i*sz+j,.none⟩=es[j]?:=by
 rcases zxe G h with p|⟨a,C,y,p,D,E,r⟩
 ·simp[Value.cells]at p;omega
 simp[Value.cells]at p;obtain⟨rfl,rfl,rfl⟩:=p;rw[ce]at r;obtain⟨b,f,o⟩:=a;have l:o=none:=by obtain⟨es,s,_⟩:=r 0 (by omega);obtain⟨z,q⟩:=zw7 s;have m:=q 0 n;rw[List.getElem?_eq_getElem (by omega)]at m;simpa[Addr.add] using World.cell?_spot m
 subst l;have key:∀ i,i<cap->∃ es,es.length=sz/\Rd enc P w e es/\∀ j,j<sz->w.cell? ⟨b,f+i*sz+j,.none⟩=es[j]?:=fun i hi=>by obtain⟨es,s,z⟩:=r i hi;obtain⟨q,m⟩:=zw7 s;exact⟨es,q,z,fun j F=>by have:=m j F;simpa[add_plain,Nat.add_assoc] using this⟩
 refine⟨b,f,rfl,?_,D,E,key⟩;obtain⟨es,q,_,m⟩:=key 0 (by omega);have B:=m 0 n;rw[List.getElem?_eq_getElem (by omega)]at B;exact zqe B
theorem zka(l:laidOutB P=true){W W':World}(hb:Below W.heap.size W W'):∀ {ts:List TypeId} {j:List Value} {f:List (DataW H)} {ps:List MemPlace},
  (ts.all fun t=>P.readableRec t&&decide (t<P.types.size))=true->(∀ x ∈ ps,x.block<W.heap.size)->DataW.TrodAll enc P W 0 (fun _=>true) true ts j f ps->
  DataW.TrodAll enc P W' 0 (fun b=>decide (b<W.heap.size)) true ts j f ps
 | [], [], [],_,_,_,h=>h
 | [], [],_::_,_,_,_,h=>h.elim
 | [],_::_,_,_,_,_,h=>h.elim
 |_::_, [],_,_,_,_,h=>h.elim
 |_::_,_::_, [],_,_,_,h=>h.elim
 |t::ts,v::j,d::f,ps,ht,hp,h=>by
  obtain⟨p,q,m,n,rfl⟩:=h
  simp only[List.all_cons,Bool.and_eq_true,decide_eq_true_eq]at ht
  exact⟨p,q,Below.trod l ht.1.1 ht.1.2 m hb (fun x i=>hp x (by simp[i])),zka l hb ht.2 (fun x i=>hp x (by simp[i])) n,rfl⟩
theorem z6a{f:Func}{s:ChangeSpec}{W W':World}{args:Array Value}{j i:List (DataW H)}{b:List MemPlace}{tb:TypeId}
  (C:laidOutB P=true) (m:f.resultTypes= #[tb]) (hu:P.underlying tb=some .bool) (y:s.vars= [])
  (D:(f.params.toList.all fun t=>P.readableRec t&&decide (t<P.types.size))=true)
  (hs:(s.fn H (j++i)).results= [.lit (.bool true)]/\(s.fn H (j++i)).args=j/\(s.fn H (j++i)).vars= [])
  (r:DataW.Whole enc P f.params.toList s.vars false W args.toList j i b) (hb:Below W.heap.size W W'):
  s.post enc P f false true false false W args (.bool true) W':=by
 have l:=r;obtain⟨p,q,z,n,rfl,B,_⟩:=r;rw[y]at n
 obtain⟨rfl,rfl⟩:i= []/\q= []:=by
  cases i with
  |nil=>exact⟨rfl,n⟩
  |cons _ _=>exact n.elim
 have o:∀ x ∈ p,x.block<W.heap.size:=fun x E=>by simpa using l.lt x (by simp[E])
 refine⟨_,_,_, [],p, [],l,?_,?_,?_,hb.frame _,fun h=>by cases h⟩
 ·rw[hs.1,m];exact trodAll_mk1 (shut_bool hu _)
 ·rw[hs.2.1];exact zka C hb D o z
 rw[hs.2.2,y];rfl
end

end

section

open Go.RowKit Go.ChangeShapes Go.WideShapes Go.ChangeAt

theorem zll{b:Type}(f:b->List Value)(sz:Nat)(i:∀ a,(f a).length=sz)(xs:List b):(xs.flatMap f).length=xs.length*sz:=by
 induction xs with
 |nil=>simp
 |cons x xs j=>rw[List.flatMap_cons,List.length_append,i,j,List.length_cons,Nat.add_mul,Nat.one_mul,Nat.add_comm]
theorem zsm{l:Type}(f:l->List Value)(sz:Nat)(b:∀ a,(f a).length=sz)(xs:List l)(i j:Nat)(hi:i<xs.length)(n:j<sz):(xs.flatMap f)[i*sz+j]?=(f xs[i])[j]?:=by
 induction xs generalizing i with
 |nil=>simp at hi
 |cons x xs m=>
  rw[List.flatMap_cons]
  cases i with
  |zero=>rw[List.getElem?_append_left (by rw[b];omega)];simp
  |succ i=>
   rw[List.getElem?_append_right (by rw[b,Nat.add_mul,Nat.one_mul];omega),b,show (i+1)*sz+j-sz=i*sz+j from by rw[Nat.add_mul,Nat.one_mul];omega]
   simpa using m i (by simpa using hi)
section

variable {H:Type} {enc:TypeId × Value->H} {P:Program} {w:World}

theorem open_list{D:Type}(f:D->List Value)(m:D->Prop){t e:TypeId}{v:Value}{sz:Nat}(G:P.underlying t=some (.slice e))(ce:P.cellsOf e=sz)(o:0<sz)(M:∀ a,(f a).length=sz)
  (I:∀ es,es.length=sz->Rd enc P w e es->∃ a,f a=es/\m a) {r:Reach} {R:Nat} {d:DataW H} {ps:List MemPlace} (U:Value.okWide P w r R t v) (q:DataW.Trod enc P w 0 (fun _=>true) true t v d ps):
  ∃ xs:List D,RdS w sz v xs.length (xs.flatMap f)/\∀ a ∈ xs,m a:=by
 obtain⟨a0,len,cap,rfl⟩:=okWide_slice G U;have h:=zom q;by_cases N:len=0
 ·subst N;refine⟨[],?_,fun a E=>by cases E⟩;have n:cap<=maxLen:=by
   rcases zxe G h with q|⟨a,O,J,q,s,y,C⟩
   ·simp[Value.cells]at q;omega
   simp[Value.cells]at q;obtain⟨rfl,_,rfl⟩:=q;exact y
  exact⟨a0,cap,rfl,Nat.zero_le _,by simp only[maxLen]at n;omega,by simp,fun h=>absurd rfl h⟩
 obtain⟨b,p,rfl,hb,n,z,F⟩:=z2c G ce o h N;have key:∀ i:Fin len,∃ a,m a/\∀ j,j<sz->w.cell? ⟨b,p+i*sz+j,.none⟩=(f a)[j]?:=fun i=>by obtain⟨es,s,y,C⟩:=F i (by have:=i.2;omega);obtain⟨a,rfl,T⟩:=I es s y;exact⟨a,T,C⟩
 let xs:List D:=List.ofFn fun i:Fin len=>Classical.choose (key i);have l:xs.length=len:=List.length_ofFn;have B:∀ i (hi:i<xs.length),xs[i]=Classical.choose (key ⟨i,l ▸ hi⟩):=fun i hi=>List.getElem_ofFn _;refine⟨xs,?_,fun a E=>?_⟩
 ·rw[l];refine⟨_,cap,rfl,n,by simp only[maxLen]at z;omega,by rw[zll f sz M,l],fun _=>⟨b,p,rfl,hb,fun i hi=>?_⟩⟩;have s:i/sz<xs.length:=by rw[l];exact Nat.div_lt_of_lt_mul (by rw[Nat.mul_comm];exact hi)
  have y:=(Classical.choose_spec (key ⟨i/sz,l ▸ s⟩)).2 (i%sz) (Nat.mod_lt _ o);have C:=zsm f sz M xs (i/sz) (i%sz) s (Nat.mod_lt _ o);rw[<-B _ s,<- C]at y;have S:i/sz*sz+i%sz=i:=by rw[Nat.mul_comm];exact Nat.div_add_mod i sz
  have L:w.cell? ⟨b,p+i/sz*sz+i%sz,.none⟩=(xs.flatMap f)[i/sz*sz+i%sz]?:=y;rw[Nat.add_assoc,S]at L;exact L
 obtain⟨i,hi,rfl⟩:=List.getElem_of_mem E;rw[B i hi];exact(Classical.choose_spec (key ⟨i,l ▸ hi⟩)).1
def RdZ (k:IntKind) (w:World) (v:Value) (zs:List Int):Prop:=RdS w 1 v zs.length (zs.map (.int k))
def RdBo (w:World) (v:Value) (l:List Bool):Prop:=RdS w 1 v l.length (l.map .bool)
end

theorem RdZ.cells{k:IntKind}{w:World}{v:Value}{zs:List Int}(h:RdZ k w v zs):∃ ao cap,v= .slice ao zs.length cap/\zs.length<=cap/\(cap:Int)<=9223372036854775807/\
  (zs≠ []->∃ b f,ao=some ⟨b,f,.none⟩/\b<w.heap.size/\∀ i (hi:i<zs.length),w.cell? ⟨b,f+i,.none⟩=some (.int k zs[i])):=by
 obtain⟨ao,cap,e,m,n,_,o⟩:=h;refine⟨ao,cap,e,m,n,fun p=>?_⟩;obtain⟨b,f,l,j,hc⟩:=o (fun h=>p (List.eq_nil_of_length_eq_zero h));refine⟨b,f,l,j,fun i hi=>(hc i (by omega)).trans ?_⟩;simp[hi]
theorem RdBo.cells{w:World}{v:Value}{zs:List Bool}(h:RdBo w v zs):∃ ao cap,v= .slice ao zs.length cap/\zs.length<=cap/\(cap:Int)<=9223372036854775807/\
  (zs≠ []->∃ b f,ao=some ⟨b,f,.none⟩/\b<w.heap.size/\∀ i (hi:i<zs.length),w.cell? ⟨b,f+i,.none⟩=some (.bool zs[i])):=by
 obtain⟨ao,cap,e,m,n,_,o⟩:=h;refine⟨ao,cap,e,m,n,fun p=>?_⟩;obtain⟨b,f,l,j,hc⟩:=o (fun h=>p (List.eq_nil_of_length_eq_zero h));refine⟨b,f,l,j,fun i hi=>(hc i (by omega)).trans ?_⟩;simp[hi]
theorem RdZ.below{k:IntKind}{w w':World}{v:Value}{zs:List Int}(h:RdZ k w v zs)(hb:Below w.heap.size w w'):RdZ k w' v zs:=RdS.below h hb
theorem RdBo.below{w w':World}{v:Value}{zs:List Bool}(h:RdBo w v zs)(hb:Below w.heap.size w w'):RdBo w' v zs:=RdS.below h hb
end

section

structure Ev where
 k:Int
 c:Int
 ok:Int
 oa:Int
 on:Int
 at':Int
 n:Int
 er:Int
 deriving DecidableEq
def Ev.cells (e:Ev):Array Value:= #[e.k,e.c,e.ok,e.oa,e.on,e.at',e.n,e.er]
def Ev.val (e:Ev):Value:= .agg e.cells
end

section

open Go.RowKit

def RdE (w:World) (v:Value) (es:List Ev):Prop:=RdS w 8 v es.length (es.flatMap fun e=> e.cells.toList)
theorem z0f(e:Ev):e.cells.toList.length=8:=rfl
theorem RdE.below{w w':World}{v:Value}{es:List Ev}(h:RdE w v es)(hb:Below w.heap.size w w'):RdE w' v es:=RdS.below h hb
theorem RdE.nth{w:World}{v:Value}{es:List Ev}(h:RdE w v es):∃ ao cap,v= .slice ao es.length cap/\es.length<=cap/\(cap:Int)<=9223372036854775807/\
  (es≠ []->∃ b f,ao=some ⟨b,f,.none⟩/\b<w.heap.size/\∀ i (hi:i<es.length) j,j<8->w.cell? ⟨b,f+i*8+j,.none⟩=(es[i]).cells.toList[j]?):=by
 obtain⟨ao,cap,e,m,n,t,o⟩:=h;refine⟨ao,cap,e,m,n,fun s=>?_⟩;obtain⟨b,f,l,p,q⟩:=o (fun e=>s (List.eq_nil_of_length_eq_zero e));refine⟨b,f,l,p,fun i hi j r=>?_⟩;rw[Nat.add_assoc,q _ (by omega)];exact zsm (fun e:Ev=>e.cells.toList) 8 z0f es i j hi r
theorem RdE.take{w:World}{ao:Option Addr}{cap:Nat}{es:List Ev}(h:RdE w (.slice ao es.length cap) es)(n:Nat)(j:n<=es.length):RdE w (cutV ao 0 n cap 8) (es.take n):=by
 have hc:=RdS.cut (l:=0) (h:=n) h (Nat.zero_le _) j;unfold RdE;have b:(es.take n).length=n:=by rw[List.length_take];omega
 rw[b];have e:(es.take n).flatMap (fun e=>e.cells.toList)=((es.flatMap fun e=>e.cells.toList).drop (0*8)).take ((n-0)*8):=by
  rw[Nat.zero_mul,List.drop_zero,Nat.sub_zero];have f:es.flatMap (fun e=>e.cells.toList)=(es.take n).flatMap (fun e=>e.cells.toList)++(es.drop n).flatMap (fun e=>e.cells.toList):=by rw[<-List.flatMap_append,List.take_append_drop]
  have i:((es.take n).flatMap (fun e=>e.cells.toList)).length=n*8:=by rw[zll _ 8 z0f,b]
  rw[f,<- i,List.take_left]
 rw[e];simpa using hc
end

section

open Go.RowKit

attribute [local go_sem ↓] Go.wp_at_zero Go.wp_at_succ

theorem zzf(p:Addr)(w:World):
  CallsD Tryz.prog 168 #[.pointer (some p)] .returning w fun e i w'=>e= .returned (.tuple #[])/\i= .returning/\w'=w:=by
 refine callsD_of_wpS Tryz.func168 rfl fun b cs hu=>?_;apply wpS_seq;apply wpS_region;simp[wpOpsS,go_sem,recoverD,hu,Tryz.ntmps168,Exit.thenS];refine wpS_cond (t:=false) (by simp[Act.eval,Array.replicate]) ?_;simp only[Bool.false_eq_true,if_false];refine wpS_of_wp (wp_skip ?_);cases b;simp_all [bodyPostS,results,Tryz.results168]
theorem zyf(B1 B2:Nat)(w:World){Q:World->Prop}
  (h:Calls Tryz.prog 144 #[some B1,some B2] (w.alloc (.cells #[.bool false] 4)) fun e w'=>e= .returned (.tuple #[])/\Q w'/\zaa w' w.heap.size #[.bool false] 4):
  Calls Tryz.prog 143 #[.func (.func 144) #[] #[some B1,some B2]] w fun e w'=>e= .returned (.bool true)/\∃ Y,Q Y/\w'=Y.setCell ⟨w.heap.size,0,.none⟩ (.bool true):=by
 have B:∀ (m:Fn) (first cap:Array Value) (w:World),(Instr.makeFunc m first cap).run Tryz.prog w= .ok (.func m first cap) w:=fun _ _ _ _=>rfl;replace h:=hd' h;go_enter_defers Tryz.func143,Tryz.ntmps143;have z:∀ W:World,(binOp .eql 1 (.func (.func 144) #[] #[some B1,some B2]) .nilFunc).run Tryz.prog W= .ok (.bool false) W:=fun W=>by kernel_rfl
 go_upto_region 1 with fail;generalize y:w.alloc (.cells #[.bool false] 4)=X at *;obtain⟨E,q,b⟩:=hidv w.heap.size;simp only[<-b]at h ⊢;clear b y;go_wp2_with (go_at_call 144;(with_reducible refine h.out.mono ?_);rintro r o ⟨rfl,s,j⟩;have p:=j.cell;have D:=zax j);refine leaves_cons (f:=168) (args:= #[some E]) (by simp) (by simp[go_sem]) ?_;refine(zzf ⟨E,0,.none⟩ _).mono ?_;rintro e F C ⟨rfl,rfl,rfl⟩;have l:=j.set 0 (.bool true);have c1:=ce (.bool true) (l.cell 0);rw[<-q.out];generalize n:o.setCell ⟨E,0,.none⟩ (.bool true)=Z at *;have i:∃ Y,Q Y/\Z=Y.setCell ⟨E,0,.none⟩ (.bool true):=⟨o,s,n.symm⟩;clear n;simp[Leaves,settle,results,Tryz.results143,go_sem,c1];exact i
theorem z81:(Tryz.prog.info? 137).map (fun i=>(i.zero,i.size,i.bytes))=some (some (.int .u64 0),1,8):=by kernel_rfl
theorem zv8(n:Nat)(l:n<=100000):∀ u:World,(Instr.makeSlice 43 (.int .i64 (n:Int)) (.int .i64 (n:Int))).run Tryz.prog u= .ok (.slice (some ⟨u.heap.size,0,.none⟩) n n) (u.alloc (.cells (madeCells #[.int .u64 0] n) 137)):=fun u=>by
 obtain⟨j,hi,b,f,i⟩:=info_parts z81
 have h:=run_make (P:=Tryz.prog) u 43 137 j (.int .u64 0) Tryz.underlying43 hi b .i64 .i64 (n:Int) (n:Int) (by omega) (Int.le_refl _) (by rw[i];omega) (by omega)
 rw[Int.toNat_natCast]at h
 simpa[f,Value.cells] using h
def zgj (n:Nat):Mem:=⟨List.replicate n 0,0,⟨0,0,0,0,0,false⟩⟩
theorem zxf(n:Nat):madeCells #[.int .u64 0] n=rowW (List.replicate n 0):=by
 apply Array.toList_inj.1;rw[toList_madeCells_one];simp[rowW]
theorem zoj(n:Nat):(zgj n).fit:=fun x b=>by
 rw[List.eq_of_mem_replicate b];exact⟨by decide,by decide⟩
theorem z7s(n:Nat)(m:n<=2000)(w:World):
  Calls Tryz.prog 104 #[.int .i64 (n:Int)] w fun e w'=>∃ p b,e= .returned (.pointer (some ⟨p,0,.none⟩))/\zaq w' p b (zgj n)/\w.heap.size<=p/\w.heap.size<=b/\Below w.heap.size w w':=by
 have j:=zv8 n (by omega);have l:decide ((n:Int)<0)=false:=decide_eq_false (by omega);have i:decide ((2000:Int)<(n:Int))=false:=decide_eq_false (by omega);go_in;go_wp2_with fail;go_returns;refine⟨_,w.heap.size,rfl,⟨by simp,?_,?_,zoj n,by simp[zgj];omega,by simp[zgj]⟩,by simp,Nat.le_refl _,?_⟩
 ·have h:=heap_alloc_new (w.alloc (.cells (madeCells #[.int .u64 0] n) 137)) (.cells (zio w.heap.size (zgj n)) 190);simpa[zio,zgj] using h
 ·have h:=heap_alloc_new w (.cells (madeCells #[.int .u64 0] n) 137);rw[zxf]at h;have i:=zaa.alloc (T:=137) h (.cells (zio w.heap.size (zgj n)) 190);simpa[zio,zgj,zaa,zxf] using i
 exact(br.alloc lr _).alloc (by simp) _
theorem z5o(p b:Nat)(m:Mem)(a x:Int)(w:World)(h:zaq w p b m)(j:m.has a)(s:0<=x/\x<18446744073709551616):
  Calls Tryz.prog 116 #[some p,a,.int .u64 x] w fun e w'=>e= .returned (.bool true)/\zaq w' p b ⟨m.ws.set a.toNat x,m.st,m.la⟩/\Only (fun k=>k=b) w w':=by
 have q:=hd' (zvd p b m a w h j);have l:=hd' (h.put j s);obtain⟨n,t,i⟩:=hidv m.ws.length;have z:w.cell? ⟨p,0,.none⟩=some (.slice (some ⟨b,0,.none⟩) n n):=by rw[i];exact zac h.blk 0
 have B:=h.cell j;have C:=zax h.row;have a0:(0:Int)<=a:=j.1;have a1:a<(n:Int):=by rw[i];exact j.2
 clear i h j;go_in;go_wp2_with (go_at_call 140;refine q.out.mono ?_;rintro r y ⟨rfl,o⟩;obtain rfl:=o.symm);go_returns;exact⟨rfl,l.out,Only.setCell (F:=fun k=>k=b) (Only.refl _ _) (.inl rfl) _⟩
theorem zoh(p b:Nat)(m:Mem)(w:World)(h:zaq w p b m):
  Calls Tryz.prog 109 #[some p] w fun e w'=>e= .returned (.int .i64 m.st)/\w'=w:=by
 have i:w.cell? ⟨p,1,.none⟩=some (.int .i64 m.st):=zac h.blk 1;clear h;go_in;go_wp2_with fail;go_returns;exact⟨rfl,rfl⟩
theorem z4k(p b:Nat)(m:Mem)(w:World)(h:zaq w p b m):
  Calls Tryz.prog 111 #[some p] w fun e w'=>e= .returned (accV m.la)/\Below w.heap.size w w':=by
 unfold accV;have y:=(Below.refl w.heap.size w).alloc lr (.cells #[.int .i64 0,.int .i64 0,.int .i64 0,.int .u64 0,.int .u64 0,.bool false] 172);have s:zaa (w.alloc (.cells #[.int .i64 0,.int .i64 0,.int .i64 0,.int .u64 0,.int .u64 0,.bool false] 172)) w.heap.size #[.int .i64 0,.int .i64 0,.int .i64 0,.int .u64 0,.int .u64 0,.bool false] 172:=heap_alloc_new _ _;have r:=h.below y;have D:w.heap.size≠p:=fun e=>by have:=h.ltp;omega
 obtain⟨la,z⟩:∃ la,la=m.la:=⟨_,rfl⟩;have F:(w.alloc (.cells #[.int .i64 0,.int .i64 0,.int .i64 0,.int .u64 0,.int .u64 0,.bool false] 172)).cell? ⟨p,2,.none⟩=some (.int .i64 m.la.c):=zac r.blk 2;have G:(w.alloc (.cells #[.int .i64 0,.int .i64 0,.int .i64 0,.int .u64 0,.int .u64 0,.bool false] 172)).cell? ⟨p,3,.none⟩=some (.int .i64 m.la.k):=zac r.blk 3;have I:(w.alloc (.cells #[.int .i64 0,.int .i64 0,.int .i64 0,.int .u64 0,.int .u64 0,.bool false] 172)).cell? ⟨p,4,.none⟩=some (.int .i64 m.la.a):=zac r.blk 4;have J:(w.alloc (.cells #[.int .i64 0,.int .i64 0,.int .i64 0,.int .u64 0,.int .u64 0,.bool false] 172)).cell? ⟨p,5,.none⟩=some (.int .u64 m.la.was):=zac r.blk 5;have L:(w.alloc (.cells #[.int .i64 0,.int .i64 0,.int .i64 0,.int .u64 0,.int .u64 0,.bool false] 172)).cell? ⟨p,6,.none⟩=some (.int .u64 m.la.put):=zac r.blk 6;have M:(w.alloc (.cells #[.int .i64 0,.int .i64 0,.int .i64 0,.int .u64 0,.int .u64 0,.bool false] 172)).cell? ⟨p,7,.none⟩=some (.bool m.la.ok):=zac r.blk 7;rw[<-z]at F G I J L M ⊢;clear h r z;obtain⟨l,n,lp,q,o,lo⟩:=la;dsimp only at F G I J L M ⊢;go_in;go_upto_region 1 with fail;generalize w.alloc (.cells #[.int .i64 0,.int .i64 0,.int .i64 0,.int .u64 0,.int .u64 0,.bool false] 172)=X at *;obtain⟨E,O,j⟩:=hidv w.heap.size;rw[<-j]at s D ⊢;have i:w.heap.size<=E:=by omega
 clear j;have Z:=s.lt;have Y:=zax s;have N:=s.cell;go_wp2_with fail;have B:zaa ((((((X.setCell ⟨E,0,.none⟩ (.int .i64 l)).setCell ⟨E,1,.none⟩ (.int .i64 n)).setCell ⟨E,2,.none⟩ (.int .i64 lp)).setCell ⟨E,3,.none⟩ (.int .u64 q)).setCell ⟨E,4,.none⟩ (.int .u64 o)).setCell ⟨E,5,.none⟩ (.bool lo)) E #[l,n,lp,.int .u64 q,.int .u64 o,lo] 172:=((((((s.set 0 (.int .i64 l)).set 1 (.int .i64 n)).set 2 (.int .i64 lp)).set 3 (.int .u64 q)).set 4 (.int .u64 o)).set 5 (.bool lo));have C:Below w.heap.size w ((((((X.setCell ⟨E,0,.none⟩ (.int .i64 l)).setCell ⟨E,1,.none⟩ (.int .i64 n)).setCell ⟨E,2,.none⟩ (.int .i64 lp)).setCell ⟨E,3,.none⟩ (.int .u64 q)).setCell ⟨E,4,.none⟩ (.int .u64 o)).setCell ⟨E,5,.none⟩ (.bool lo)):=((((((y.setCell (p:=⟨E,0,.none⟩) i (.int .i64 l)).setCell (p:=⟨E,1,.none⟩) i (.int .i64 n)).setCell (p:=⟨E,2,.none⟩) i (.int .i64 lp)).setCell (p:=⟨E,3,.none⟩) i (.int .u64 q)).setCell (p:=⟨E,4,.none⟩) i (.int .u64 o)).setCell (p:=⟨E,5,.none⟩) i (.bool lo));generalize (((((X.setCell ⟨E,0,.none⟩ (.int .i64 l)).setCell ⟨E,1,.none⟩ (.int .i64 n)).setCell ⟨E,2,.none⟩ (.int .i64 lp)).setCell ⟨E,3,.none⟩ (.int .u64 q)).setCell ⟨E,4,.none⟩ (.int .u64 o)).setCell ⟨E,5,.none⟩ (.bool lo)=U at *;obtain⟨r0,r1,R⟩:=ci3 l n lp B.cell;have S:=ce (.int .u64 q) (B.cell 3);have T:=ce (.int .u64 o) (B.cell 4);have V:=ce (.bool lo) (B.cell 5);exact bodyPost_ret (v:= .agg #[l,n,lp,.int .u64 q,.int .u64 o,lo]) (by simp[results,Tryz.results111,go_sem,r0,r1,R,S,T,V]) rfl ⟨rfl,C⟩
theorem z5x(xs:List Int)(v:Value)(w:World)(E:RdS w 1 v xs.length (xs.map (Value.int .u64)))(D:xs.length<=2000):
  Calls Tryz.prog 122 #[v] w fun e w'=>∃ v',e= .returned v'/\Below w.heap.size w w'/\w'.ownsRow w.heap.size 137 1 v' xs.length (xs.map (Value.int .u64)):=by
 obtain⟨ao,cap,rfl,C,F,J,o⟩:=id E;have n:∀ W:World,(binOp .eql 43 (.slice ao xs.length cap) (.slice none 0 0)).run Tryz.prog W= .ok (.bool ao.isNone) W:=fun W=>Lib.run_eql_slice_nil W _ _ ao _ _ _ _ Tryz.underlying43;rcases ao with _|ad
 ·have G:xs= []:=by
   rcases xs with _|⟨b,l⟩
   ·rfl
   obtain⟨_,_,h,_⟩:=o (by simp);cases h
  subst G;replace n:∀ W:World,(binOp .eql 43 (.slice none 0 cap) (.slice none 0 0)).run Tryz.prog W= .ok (.bool true) W:=n;show Calls Tryz.prog 122 #[.slice none 0 cap] w _;go_in;go_wp2;go_ret;exact⟨_,rfl,Below.refl _ _,⟨rfl,.inl ⟨rfl,rfl⟩⟩⟩
 obtain⟨I,q,s,y,z⟩:=info_parts z81;have m:(w.alloc (.cells #[] 137)).ownsRow w.heap.size 137 1 (.slice (some ⟨w.heap.size,0,.none⟩) 0 0) 0 []:=World.ownsRow_lit w #[] 0 lr (Nat.zero_le _) rfl;have r:RdS (w.alloc (.cells #[] 137)) 1 (.slice (some ad) xs.length cap) xs.length (xs.map (Value.int .u64)):=RdS.alloc E _;go_in;go_wp2_with (refine zay rfl (.tmp 5) (.tmp 6) 43 rfl w.heap.size 137 I _ 1 8 Tryz.underlying43 q s y z rfl (by omega) _ 0 [] rfl m _ xs.length (xs.map (Value.int .u64)) rfl r (by intro c hc;obtain⟨x,_,rfl⟩:=List.mem_map.1 hc;rfl) (by simp only[maxLen];omega) (by omega) (by simp) ?_;intro L M i j B;have p:=zaw ((Below.refl w.heap.size w).alloc lr _) m (by simp) j);go_ret;rw[Nat.zero_add,List.nil_append]at i;exact⟨_,rfl,p,i⟩
theorem zaq.rd{w:World}{p b:Nat}{m:Mem}(h:zaq w p b m):RdS w 1 (.slice (some ⟨b,0,.none⟩) m.ws.length m.ws.length) m.ws.length (m.ws.map (Value.int .u64)):=by
 have f:=RdS.new (sz:=1) (n:=m.ws.length) h.row (by simp[rowW]) (by have:=h.few;omega);simpa[rowW] using f
theorem z8c(p b:Nat)(m:Mem)(w:World)(h:zaq w p b m):
  Calls Tryz.prog 69 #[some p] w fun e w'=>∃ v',e= .returned v'/\Below w.heap.size w w'/\w'.ownsRow w.heap.size 137 1 v' m.ws.length (m.ws.map (Value.int .u64)):=by
 have o:w.cell? ⟨p,0,.none⟩=some (.slice (some ⟨b,0,.none⟩) m.ws.length m.ws.length):=zac h.blk 0;have hc:=hd' (z5x m.ws _ w h.rd h.few);go_in;go_wp2_with (go_at_call 122;refine hc.out.mono ?_;rintro e n ⟨l,rfl,i,j⟩);go_ret;exact⟨_,rfl,i,j⟩
end

section

structure Hp where
 p:Int
 c:Int
 m:Int
 xs:List Int
def wd (xs:List Int) (i:Int):Int:=xs.getD i.toNat 0
theorem yc8{xs:List Int}{i:Int}(b:0<=i)(f:i<xs.length):wd xs i=xs[i.toNat]'(by omega):=by
 unfold wd;rw[List.getD_eq_getElem?_getD,List.getElem?_eq_getElem (by omega)];rfl
def Hp.ok (h:Hp):Bool:=mayB h.p h.c h.m && decide (zb6 h.p h.c h.m<=(h.xs.length:Int))
def Hp.pw (h:Hp) (a:Int):Int:=wd h.xs (h.c + a)
def Hp.pb (h:Hp) (a:Int):Bool:=zal h.p h.c h.m a (h.pw a)
def Hp.pk (h:Hp) (a:Int):Int:=if h.pb a=true then zbx (h.pw a) else 0
def Hp.pa (h:Hp) (a:Int):Int:=if h.pb a=true then za2 (h.pw a) 0 else 0
def Hp.pn (h:Hp) (a:Int):Int:=if h.pb a=true then za2 (h.pw a) 1 else 0
def Hp.sw (h:Hp) (a i:Int):Int:=wd h.xs (h.c + h.p + a * 16 + i)
def Hp.sk (h:Hp) (a i:Int):Int:=if zet (h.sw a i)=true then zbx (h.sw a i) else 0
def Hp.sa (h:Hp) (a i:Int):Int:=if zet (h.sw a i)=true then za2 (h.sw a i) 0 else 0
def Hp.hd (h:Hp) (a:Int):Int:=if (h.pb a && h.pk a==4)=true then h.pa a else a
def Hp.hb (h:Hp) (a:Int):Bool:=h.pb (h.hd a) && h.pk (h.hd a)==1
def Hp.hc (h:Hp) (a:Int):Int:=if h.hb a=true then h.pa (h.hd a) else 0
def ycd (x:Int):Bool:=za8 (zbx x) (za2 x 0)==x && zbx x==1
def Hp.lv (h:Hp) (x:Int):Bool:=mayB h.p h.c h.m && wi x 0 (h.c - 1) && ycd (wd h.xs x)
def Hp.op (h:Hp) (a:Int):Nat->Bool
 | 0=> true
 | i + 1=> h.op a i && h.sk a i==1
def Hp.fr (h:Hp) (a:Int):Bool:=if (h.pb a && h.pk a==2)=true then h.op a (zah (h.pa a)).toNat else h.pb a && h.pk a==0
def Hp.rw (h:Hp):Nat->Nat
 | 0=> 0
 | k + 1=> if h.fr k=true then h.rw k + 1 else 0
def Hp.fit (h:Hp):Prop:=∀ x ∈ h.xs,0<=x/\x < 18446744073709551616
theorem Hp.z95{h:Hp}(f:h.fit)(i:Int):0<=wd h.xs i/\wd h.xs i<18446744073709551616:=by
 unfold wd;rw[List.getD_eq_getElem?_getD];rcases Nat.lt_or_ge i.toNat h.xs.length with b|b
 ·rw[List.getElem?_eq_getElem b];exact f _ (List.getElem_mem b)
 rw[List.getElem?_eq_none b];exact⟨by decide,by decide⟩
theorem zpp{p c m a x:Int}(h:zal p c m a x=true):zkb p c a (zbx x) (za2 x 0) (za2 x 1)=true:=by
 unfold zal at h;simp only[Bool.and_eq_true]at h;exact h.2
theorem Hp.zq2{h:Hp}{a:Int}(b:h.pb a=true):zkb h.p h.c a (h.pk a) (h.pa a) (h.pn a)=true:=by
 unfold Hp.pk Hp.pa Hp.pn;rw[if_pos b,if_pos b,if_pos b];exact zpp b
theorem Hp.z1z(h:Hp)(a:Int):(0<=h.pk a/\h.pk a<=15)/\(0<=h.pa a/\h.pa a<=255)/\0<=h.pn a/\h.pn a<=255:=by
 unfold Hp.pk Hp.pa Hp.pn;have:=zw3 (h.pw a);have:=zgv (h.pw a) 0;have:=zgv (h.pw a) 1;split<;>simp_all
theorem Hp.ygu{h:Hp}{a:Int}(b:(h.pb a&&h.pk a==4)=true):h.pa a<a/\a-8<h.pa a/\0<=h.pa a:=by
 simp only[Bool.and_eq_true,beq_iff_eq]at b;have:=h.zq2 b.1;rw[b.2]at this;simp[zkb]at this;exact⟨this.1,this.2,(h.z1z a).2.1.1⟩
theorem Hp.yji{h:Hp}{a:Int}(b:(h.pb a&&h.pk a==3)=true):1<=h.pa a/\h.pa a<=8/\h.pa a<=h.p-a:=by
 simp only[Bool.and_eq_true,beq_iff_eq]at b;have:=h.zq2 b.1;rw[b.2]at this;simp[zkb]at this;omega
theorem Hp.ygf{h:Hp}{a:Int}(b:(h.pb a&&h.pk a==2)=true):0<=h.pa a/\h.pa a<=3:=by
 simp only[Bool.and_eq_true,beq_iff_eq]at b;have:=h.zq2 b.1;rw[b.2]at this;simp[zkb]at this;have:=(h.z1z a).2.1.1;omega
theorem Hp.yfx{h:Hp}{a:Int}(b:0<=a)(f:a<h.p):0<=h.hd a/\h.hd a<h.p:=by
 unfold Hp.hd;split
 ·rename_i i;have:=Hp.ygu i;omega
 exact⟨b,f⟩
structure Cn where
 f:Int
 t:Int
 l:Int
 o:Int
 deriving DecidableEq
def Cn.zero:Cn:=⟨0,0,0,0⟩
def Cn.add (x y:Cn):Cn:=⟨x.f + y.f,x.t + y.t,x.l + y.l,x.o + y.o⟩
def Cn.sum (x:Cn):Int:=x.f + x.t + x.l + x.o
def Cn.nn (x:Cn):Prop:=0<=x.f/\0<=x.t/\0<=x.l/\0<=x.o
theorem Cn.zt6(x y:Cn):(x.add y).sum=x.sum+y.sum:=by simp only[Cn.sum,Cn.add];omega
theorem Cn.z3s{x y:Cn}(h:x.nn)(k:y.nn):(x.add y).nn:=by unfold Cn.nn Cn.add at *;simp only;omega
theorem Cn.bd{x:Cn}{n:Int}(h:x.nn)(k:x.sum<=n):(0<=x.f/\x.f<=n)/\(0<=x.t/\x.t<=n)/\(0<=x.l/\x.l<=n)/\0<=x.o/\x.o<=n:=by unfold Cn.nn Cn.sum at *;omega
theorem Cn.add_assoc(x y z:Cn):(x.add y).add z=x.add (y.add z):=by simp only[Cn.add,Int.add_assoc]
theorem Cn.add_zero(x:Cn):x.add Cn.zero=x:=by simp[Cn.add,Cn.zero]
def zj7 (b:Bool) (k:Int):Cn:=if b=true then ⟨0,0,k,0⟩ else ⟨0,0,0,k⟩
theorem zri(b:Bool)(k:Int):(zj7 b k).sum=k:=by unfold zj7 Cn.sum;split<;>simp
theorem zwp(b:Bool){k:Int}(h:0<=k):(zj7 b k).nn:=by unfold zj7 Cn.nn;split<;>simp[h]
def Hp.slC (h:Hp) (a z i:Int):Cn:=if h.sk a i=1 then ⟨z,0,0,0⟩ else if h.sk a i=3 then ⟨0,z,0,0⟩ else zj7 (h.sk a i==2 && h.lv (h.sa a i)) z
def Hp.slS (h:Hp) (a z:Int):Nat->Cn
 | 0=> Cn.zero
 | i + 1=> (h.slS a z i).add (h.slC a z i)
theorem Hp.ybf(h:Hp)(a z i:Int):(h.slC a z i).sum=z:=by
 unfold Hp.slC;split
 ·simp[Cn.sum]
 split
 ·simp[Cn.sum]
 exact zri _ _
theorem Hp.ydg(h:Hp)(a i:Int){z:Int}(b:0<=z):(h.slC a z i).nn:=by
 unfold Hp.slC;split
 ·simp[Cn.nn,b]
 split
 ·simp[Cn.nn,b]
 exact zwp _ b
theorem Hp.z2x(h:Hp)(a z:Int)(i:Nat):(h.slS a z i).sum=z*i:=by
 induction i with
 |zero=>simp[Hp.slS,Cn.zero,Cn.sum];|succ i b=>show ((h.slS a z i).add (h.slC a z i)).sum=_;rw[Cn.zt6,b,Hp.ybf,Int.natCast_add,Int.mul_add];simp
theorem Hp.z9d(h:Hp)(a:Int){z:Int}(b:0<=z)(i:Nat):(h.slS a z i).nn:=by
 induction i with
 |zero=>simp[Hp.slS,Cn.zero,Cn.nn]
 |succ i f=>exact Cn.z3s f (h.ydg a i b)
def Hp.pgC (h:Hp) (a:Int):Cn:=
 if (h.hb a || !h.pb a)=true then zj7 (h.hb a && h.lv (h.hc a)) 64
 else if h.pk a=0 then ⟨64,0,0,0⟩
 else if h.pk a=2 then h.slS a (zbj (h.pa a)) (zah (h.pa a)).toNat
 else ⟨0,64,0,0⟩
def Hp.cn (h:Hp):Nat->Cn
 | 0=> Cn.zero
 | k + 1=> (h.cn k).add (h.pgC k)
def Hp.count (h:Hp):Cn:=if h.ok=true then h.cn h.p.toNat else Cn.zero
theorem Hp.ybs(h:Hp)(a:Int):(h.pgC a).sum=64:=by
 unfold Hp.pgC;split
 ·exact zri _ _
 rename_i b;simp only[Bool.or_eq_true,Bool.not_eq_true',not_or,Bool.not_eq_false]at b;split
 ·simp[Cn.sum]
 split
 ·rename_i f;have:=Hp.ygf (h:=h) (a:=a) (by rw[b.2,f];rfl);have hb:=zcy (h.pa a);rw[Hp.z2x,Int.toNat_of_nonneg hb.1];exact zzh this
 simp[Cn.sum]
theorem Hp.yc5(h:Hp)(a:Int):(h.pgC a).nn:=by
 unfold Hp.pgC;split
 ·exact zwp _ (by decide)
 split
 ·simp[Cn.nn]
 split
 ·exact h.z9d a (znt _).1 _
 simp[Cn.nn]
theorem Hp.ydp(h:Hp)(k:Nat):(h.cn k).sum=64*k:=by
 induction k with
 |zero=>simp[Hp.cn,Cn.zero,Cn.sum];|succ k b=>show ((h.cn k).add (h.pgC k)).sum=_;rw[Cn.zt6,b,Hp.ybs];omega
theorem Hp.ygi(h:Hp)(k:Nat):(h.cn k).nn:=by
 induction k with
 |zero=>simp[Hp.cn,Cn.zero,Cn.nn]
 |succ k b=>exact Cn.z3s b (h.yc5 k)
end

end Go.Proofs.YtkbddndcegpllaaGreat
