/- Lemmas for the claim. -/
import Derived.Test.YtmmbicppdjgbmaaGreatBw32

set_option linter.all false
set_option maxHeartbeats 2000000
set_option maxRecDepth 100000
namespace Go.Proofs.YtmmbicppdjgbmaaGreat

section

open Go.RowKit

def laid (cur:List Value) (off:Nat) (cs:List Value):List Value:=cur.take off ++ cs ++ cur.drop (off + cs.length)
theorem RN(b:List Value)(off:Nat):laid b off []=b:=by simp[laid]
theorem eI{b cs:List Value}{off:Nat}(h:off+cs.length<=b.length):(laid b off cs).length=b.length:=by
 unfold laid;rw[List.length_append,List.length_append,List.length_take,List.length_drop];omega
section

variable {P:Program} {w:World}

theorem FN(w:World)(g:Nat)(cs:Array Value):w.grownBy (w.setRow g cs) (some g):=
 ⟨rfl,rfl,rfl,by simp,fun k _ b=>setRow_other w g k _ (fun e=>b (by simp[e]))⟩
theorem ymh(M sT T l:TypeId)(sz:Nat)(hu:P.underlying M=some (.slice l))(D:(P.info? l).map (·.size)=some sz)(E:Option Addr) (p q:Nat) (u:Value) (m n:Nat) (src:List Value) (g off:Nat) (f:List Value) (t:TypeId)(H:w.heap[g]?=some (.cells f.toArray t (0,0))) (hd:0<m->E=some ⟨g,off,.none⟩) (S:RdS w sz u n src) (B:m=Nat.min n p) (r:off+m*sz<=f.length) (h1:∀ v ∈ src.take (m*sz),v.oneCell'=true) (_hsz0:0<sz):
  ∃ w',(Builtin.copy_ #[M,sT] T #[.slice E p q,u]).run P w= .ok (goInt m) w'/\w'.heap[g]?=some (.cells (laid f off (src.take (m*sz))).toArray t (0,0))/\w.grownBy w' (some g):=by
 obtain⟨ao,cap,rfl,N,O,U,C⟩:=S;cases hq:P.info? l with
 |none=>simp[hq]at D;|some i=>
  have hi:i.size=sz:=by simpa[hq] using D
  rcases Nat.eq_zero_or_pos m with h0|h0
  ·subst h0;have J:∀ (x:Addr),(loadCells x 0).run P w= .ok #[] w:=fun x=>by simpa using run_loadCells_list (P:=P) w x [] (by simp)
   refine⟨w,?_,by rw[Nat.zero_mul,List.take_zero,RN];exact H,World.grownBy.refl w _⟩;cases E<;>cases ao<;>simp[Builtin.copy_,run_underlying hu,Builtin.lenOf,Builtin.firstCells,sizeOf,typeInfo,hq,<- B,storeCells,J]
  obtain⟨b,o,rfl,_,F⟩:=C (by intro h;rw[h]at B;simp at B;omega);have R:m*sz<=n*sz:=Nat.mul_le_mul_right _ (by rw[B];exact Nat.min_le_left _ _);have z:(src.take (m*sz)).length=m*sz:=by rw[List.length_take];omega
  have y:=run_loadCells_list (P:=P) w ⟨b,o,.none⟩ (src.take (m*sz)) (fun j v I=>by
   have s:j<m*sz:=by have:=(List.getElem?_eq_some_iff.1 I).1;omega
   rw[List.getElem?_take,jP s]at I
   rw[zI,F j (by omega),I])
  have L:=run_storeCells_at P g off t (src.take (m*sz)) 0 f.toArray w H (by rw[z];simpa using r) h1;rw[z]at y;have G:=hd h0;subst G;refine⟨w.setRow g (laid f off (src.take (m*sz))).toArray,?_,?_,FN w g _⟩
  ·simp[Builtin.copy_,run_underlying hu,Builtin.lenOf,Builtin.firstCells,sizeOf,typeInfo,hq,hi,<- B,y,L,laid]
  exact setRow_heap w g f.toArray _ t _ H
theorem GR{o:Oper}{a:Act}{K:Act->World->Prop}{Q:Exit->Act->World->Prop}(d s:Operand)(r sT:TypeId)(D:o.op= .call { callee:= .builtin .copy,args:= #[d,s],argTypes:= #[r,sT]}) (f:TypeId) (sz:Nat) (hu:P.underlying r=some (.slice f)) (z:(P.info? f).map (·.size)=some sz) (q:0<sz)(y:Option Addr) (b l:Nat) (hd':a.eval d= .slice y b l) (u:Value) (hs:a.eval s=u) (m i:Nat) (src:List Value) (g off:Nat) (j:List Value) (t:TypeId)(B:w.heap[g]?=some (.cells j.toArray t (0,0))) (hd:0<m->y=some ⟨g,off,.none⟩) (E:RdS w sz u i src) (C:m=Nat.min i b) (n:off+m*sz<=j.length) (h1:∀ v ∈ src.take (m*sz),v.oneCell'=true)(h:∀ w',w'.heap[g]?=some (.cells (laid j off (src.take (m*sz))).toArray t (0,0))->w.grownBy w' (some g)->K (a.put o.dst (goInt m)) w'):o.wp P a w K Q:=by
 obtain⟨w',p,h2,h3⟩:=ymh (P:=P) (w:=w) r sT o.type f sz hu z y b l u m i src g off j t B hd E C n h1 q;unfold Oper.wp execOp;simp only[D,resolve,invoke,builtin,Sem.run_bind,Sem.run_pure,Result.andThen_ok,List.map_toArray,List.map_cons,List.map_nil,hs,hd',p];exact h w' h2 h3
theorem qR{q:Array Oper}{rest:List Oper}{o:Oper}{a:Act}{Q:Exit->Act->World->Prop}(z:o.guard=none)(d s:Operand)(r sT:TypeId)(F:o.op= .call { callee:= .builtin .copy,args:= #[d,s],argTypes:= #[r,sT]}) (f:TypeId) (sz:Nat) (hu:P.underlying r=some (.slice f)) (B:(P.info? f).map (·.size)=some sz) (p:0<sz)(y:Option Addr) (b l:Nat) (hd':a.eval d= .slice y b l) (u:Value) (hs:a.eval s=u) (m i:Nat) (src:List Value) (g off:Nat) (j:List Value) (t:TypeId)(D:w.heap[g]?=some (.cells j.toArray t (0,0))) (hd:0<m->y=some ⟨g,off,.none⟩) (G:RdS w sz u i src) (E:m=Nat.min i b) (n:off+m*sz<=j.length) (h1:∀ v ∈ src.take (m*sz),v.oneCell'=true)(h:∀ w',w'.heap[g]?=some (.cells (laid j off (src.take (m*sz))).toArray t (0,0))->w.grownBy w' (some g)->wpList P q Q rest (a.put o.dst (goInt m)) w'):wpList P q Q (o::rest) a w:=
 wpList_plain z fun _ C=>GR d s r sT F f sz hu B p y b l hd' u hs m i src g off j t D hd G E n h1 fun w' h2 h3=>C _ _ (h w' h2 h3)
theorem rR{q:Array Oper}{o:Oper}{a:Act}{K:Act->World->Prop}{Q:Exit->Act->World->Prop}{E:Prop}(z:o.guard=none)(d s:Operand)(r sT:TypeId)(F:o.op= .call { callee:= .builtin .copy,args:= #[d,s],argTypes:= #[r,sT]}) (f:TypeId) (sz:Nat) (hu:P.underlying r=some (.slice f)) (B:(P.info? f).map (·.size)=some sz) (p:0<sz)(y:Option Addr) (b l:Nat) (hd':a.eval d= .slice y b l) (u:Value) (hs:a.eval s=u) (m i:Nat) (src:List Value) (g off:Nat) (j:List Value) (t:TypeId)(C:w.heap[g]?=some (.cells j.toArray t (0,0))) (hd:0<m->y=some ⟨g,off,.none⟩) (G:RdS w sz u i src) (D:m=Nat.min i b) (n:off+m*sz<=j.length) (h1:∀ v ∈ src.take (m*sz),v.oneCell'=true)(h:∀ w',w'.heap[g]?=some (.cells (laid j off (src.take (m*sz))).toArray t (0,0))->w.grownBy w' (some g)->K (a.put o.dst (goInt m)) w'):
  if Region.wanted o (yielded q a.tmps)=true then Oper.wp P o a w K Q else E:=by
 have H:Region.wanted o (yielded q a.tmps)=true:=by simp[Region.wanted,z]
 rw[jP H];exact GR d s r sT F f sz hu B p y b l hd' u hs m i src g off j t C hd G D n h1 h
theorem ylw(zero:Array Value)(n:Nat)(h:∀ v ∈ zero.toList,v.oneCell'=true)(j:0<zero.size):∀ v ∈ (Builtin.zeroCells zero n).toList,v.oneCell'=true:=by
 intro v f;simp only[Builtin.zeroCells,Array.toList_map,List.mem_map]at f;obtain⟨i,_,rfl⟩:=f;have b:i%zero.size<zero.size:=Nat.mod_lt _ j;rw[getElem!_pos zero (i%zero.size) b];exact h _ (Array.getElem_mem_toList b)
theorem yl3(t e E:TypeId)(i:TypeInfo)(z:Value)(sz:Nat)(C:P.underlying t=some (.slice e))(hi:P.info? e=some i)(D:i.zero=some z)(s:z.cells.size=sz)(r:∀ v ∈ z.cells.toList,v.oneCell'=true)(B:0<sz)(l:Option Addr) (n c g off:Nat) (b:List Value) (j:TypeId) (p:w.heap[g]?=some (.cells b.toArray j (0,0))) (hd:0<n->l=some ⟨g,off,.none⟩) (f:off+n*sz<=b.length):
  ∃ w' cs,(Builtin.clear_ #[t] E #[.slice l n c]).run P w= .ok (.tuple #[]) w'/\cs.length=n*sz/\w'.heap[g]?=some (.cells (laid b off cs).toArray j (0,0))/\w.grownBy w' (some g):=by
 rcases Nat.eq_zero_or_pos n with h0|h0
 ·subst h0;refine⟨w, [],?_,by simp,by rw[RN];exact p,World.grownBy.refl w _⟩;cases l<;>simp[Builtin.clear_,run_underlying C]
 have o:=hd h0;subst o;have y:(Builtin.zeroCells z.cells n).toList.length=n*sz:=by rw[Array.length_toList,size_zeroCells,s]
 have q:=run_storeCells_at P g off j (Builtin.zeroCells z.cells n).toList 0 b.toArray w p (by rw[y];simpa using f) (ylw _ _ r (by omega));obtain⟨m,rfl⟩:∃ m,n=m+1:=⟨n-1,by omega⟩;refine⟨w.setRow g (laid b off (Builtin.zeroCells z.cells (m+1)).toList).toArray,(Builtin.zeroCells z.cells (m+1)).toList,?_,y,setRow_heap w g b.toArray _ j _ p,FN w g _⟩;simp[Builtin.clear_,run_underlying C,zeroValue,typeInfo,hi,D,q,laid]
theorem yky(t Z e ty:TypeId)(i:TypeInfo)(z:Value)(sz m:Nat)(ht:P.underlying t=some (.slice e))(hx:P.underlying Z=some (.int .i64))(hi:P.info? e=some i)(hz:i.zero=some z)(q:i.size=sz)(I:i.bytes=m)(V:z.cells.size=sz)(C:0<sz)(ao:Option Addr) (k cap n:Nat) (f:List Value) (hr:RdS w sz (.slice ao k cap) k f) (T:cap<k+n) (p:(k+n)*m<=140737488355328) (D:k+n<=1000000):
  ∃ l w' rest,(Builtin.append_ #[t,Z] ty #[.slice ao k cap,n]).run P w= .ok (.slice (some ⟨w.heap.size,0,.none⟩) (k+n) l) w'/\k+n<=l/\l<=maxLen/\
   w'.heap[w.heap.size]?=some (.cells (f++rest).toArray e (0,0))/\(f++rest).length=l*sz/\Below w.heap.size w w':=by
 subst q I;obtain⟨b0,l,E,b1,b2,M,B⟩:=hr;injection E with E _ e3;subst E e3;have hn:¬ (k+n<=cap):=by omega
 have U:IntKind.i64.wrap (n:Int)=n:=by rw[IntKind.wrap_i64];omega
 have R:¬ ((n:Int)<0):=by omega
 have X:=growslice_fits (need:=k+n) (old:=cap) (by omega) p;have F:¬ (281474976710656<Builtin.nextslicecap (k+n) cap*i.bytes):=by omega
 have b3:n*i.bytes<=(k+n)*i.bytes:=Nat.mul_le_mul_right _ (by omega);have r:¬ ((281474976710656:Int)<(n:Int)*(i.bytes:Int)):=by
  have h2:((n*i.bytes:Nat):Int)<=140737488355328:=by omega
  rw[Int.natCast_mul]at h2;omega
 have G:¬ ((9223372036854775807:Int)<((k:Int)+(n:Int))):=by omega
 have L:=grownCap_ge w (k+n) cap e;have N:=grownCap_le_maxLen w (k+n) cap e (by simp only[maxLen];omega);have y:(Builtin.firstCells i.size k (.slice ao k cap)).run P w.drew= .ok f.toArray w.drew:=by
  rcases Nat.eq_zero_or_pos k with h0|h0
  ·subst h0;have:f= []:=List.eq_nil_of_length_eq_zero (by simpa using M);subst this;cases ao<;>simp[Builtin.firstCells,loadCells,loadCellsFrom]
  obtain⟨b,o,rfl,_,J⟩:=B (by omega)
  exact run_firstCells_some (P:=P) w.drew i.size k ⟨b,o,.none⟩ k cap f M (fun j v Y=>by
   have s:j<k*i.size:=by have:=(List.getElem?_eq_some_iff.1 Y).1;omega
   rw[zI,<- Y]
   exact J j s)
 have H:(asInt (.int .i64 (n:Int))).run P w= .ok (n:Int) w:=rfl;have O:max (n:Int) 0=(n:Int):=by omega
 have S:¬ (n*i.size=0):=by
  have:0<n:=by omega
  exact Nat.pos_iff_ne_zero.1 (Nat.mul_pos this C)
 refine⟨grownCap w (k+n) cap e,w.drew.alloc (.cells (f.toArray++Builtin.zeroCells z.cells n++Builtin.zeroCells z.cells (grownCap w (k+n) cap e-(k+n))) e),(Builtin.zeroCells z.cells n++Builtin.zeroCells z.cells (grownCap w (k+n) cap e-(k+n))).toList,?_,L,N,?_,?_,?_⟩
 ·simp[Builtin.append_,run_underlying ht,run_underlying hx,sizeOf,typeInfo,zeroValue,hi,hz,Builtin.lenOf,hn,U,R,F,r,G,Question.forced,y,newRow,grownCap,S,H,O]
 ·have:=jA w.drew (.cells (f.toArray++Builtin.zeroCells z.cells n++Builtin.zeroCells z.cells (grownCap w (k+n) cap e-(k+n))) e);refine this.trans ?_;congr 2;apply Array.ext';simp
 ·rw[List.length_append,M];simp only[Array.length_toList,Array.size_append,size_zeroCells,V];rw[<-Nat.add_mul,<- Nat.add_mul];congr 1;omega
 exact br.drew.alloc lr _
theorem yk2{m:Array Oper}{rest:List Oper}{o:Oper}{a:Act}{Q:Exit->Act->World->Prop}(q:o.guard=none)(x:Operand)(t:TypeId)(D:o.op= .call { callee:= .builtin .clear,args:= #[x],argTypes:= #[t]}) (e:TypeId) (i:TypeInfo) (z:Value) (sz:Nat) (E:P.underlying t=some (.slice e)) (hi:P.info? e=some i) (G:i.zero=some z) (s:z.cells.size=sz) (r:∀ v ∈ z.cells.toList,v.oneCell'=true) (l:0<sz)(p:Option Addr) (n c:Nat) (F:a.eval x= .slice p n c) (g off:Nat) (b:List Value) (y:TypeId) (C:w.heap[g]?=some (.cells b.toArray y (0,0))) (hd:0<n->p=some ⟨g,off,.none⟩) (f:off+n*sz<=b.length)(h:∀ w' (cs:List Value),cs.length=n*sz->w'.heap[g]?=some (.cells (laid b off cs).toArray y (0,0))->w.grownBy w' (some g)->wpList P m Q rest (a.put o.dst (.tuple #[])) w'):wpList P m Q (o::rest) a w:=
 wpList_plain q fun _ B=>by
  obtain⟨w',cs,j,h2,h3,h4⟩:=yl3 (P:=P) (w:=w) t e o.type i z sz E hi G s r l p n c g off b y C hd f
  unfold Oper.wp execOp
  simp only[D,resolve,invoke,builtin,Sem.run_bind,Sem.run_pure,Result.andThen_ok,List.map_toArray,List.map_cons,List.map_nil,F,j]
  exact B _ _ (h w' cs h2 h3 h4)
theorem ykm{C:Array Oper}{rest:List Oper}{o:Oper}{a:Act}{Q:Exit->Act->World->Prop}(E:o.guard=none)(s x:Operand)(t J:TypeId)(O:o.op= .call { callee:= .builtin .append,args:= #[s,x],argTypes:= #[t,J]}) (e:TypeId) (i:TypeInfo) (z:Value) (sz j:Nat) (S:P.underlying t=some (.slice e)) (F:P.underlying J=some (.int .i64)) (hi:P.info? e=some i) (U:i.zero=some z) (r:i.size=sz) (D:i.bytes=j) (I:z.cells.size=sz) (B:0<sz)(ao:Option Addr) (k cap n:Nat) (hs:a.eval s= .slice ao k cap) (L:Int) (G:a.eval x= .int .i64 L) (H:L=(n:Int)) (l:List Value) (R:RdS w sz (.slice ao k cap) k l) (q:cap<k+n) (m:(k+n)*j<=140737488355328) (p:k+n<=1000000)(h:∀ b w' f,k+n<=b->b<=maxLen->w'.heap[w.heap.size]?=some (.cells (l++f).toArray e (0,0))->(l++f).length=b*sz->jW w w'->
   wpList P C Q rest (a.put o.dst (.slice (some ⟨w.heap.size,0,.none⟩) (k+n) b)) w'):wpList P C Q (o::rest) a w:=
 wpList_plain E fun _ N=>by
  have T:=H ▸ G
  obtain⟨b,w',f,y,h1,h2,h3,h4,M⟩:=yky (P:=P) (w:=w) t J e o.type i z sz j S F hi U r D I B ao k cap n l R q m p
  unfold Oper.wp execOp
  simp only[O,resolve,invoke,builtin,Sem.run_bind,Sem.run_pure,Result.andThen_ok,List.map_toArray,List.map_cons,List.map_nil,hs,T,y]
  exact N _ _ (h b w' f h1 h2 h3 h4 M)
end

end

section

open Go.RowKit

abbrev PM:=Mdl 226 152
def clash (l:List Bk) (at' n:Int):Bool:=
 OA at' l || (match l[posB at' l]? with | some b=> decide (b.a - at' < n) | none=> false) || (decide (0 < posB at' l) && match l[posB at' l - 1]? with | some b=> decide (at' - b.a < b.n) | none=> false)
theorem yo3{W lo at' n:Int}{l:List Bk}(h:okK W lo l)(o:1<=n):clash l at' n=l.any (fun b=>meets b at' n):=by
 have p:=WJ at' l;rw[Bool.eq_iff_iff];simp only[clash,Bool.or_eq_true,jC,List.any_eq_true,meets,decide_eq_true_eq];constructor
 ·rintro((h1|h1)|⟨h1,h2⟩)
  ·obtain⟨b,hb,e⟩:=(NM h).1 h1;have:=(h.mem b hb).2.1;exact⟨b,hb,by omega,by omega⟩
  ·rcases Nat.lt_or_ge (posB at' l) l.length with h3|h3
   ·rw[List.getElem?_eq_getElem h3]at h1;simp only[decide_eq_true_eq]at h1;have:=JT at' l h3;have:=(h.mem _ (List.getElem_mem h3)).2.1;exact⟨_,List.getElem_mem h3,by omega,by omega⟩
   rw[List.getElem?_eq_none h3]at h1;cases h1
  have h3:posB at' l-1<l.length:=by omega
  rw[List.getElem?_eq_getElem h3]at h2;simp only[decide_eq_true_eq]at h2;have:=wI at' l (posB at' l-1) (by omega) h3;exact⟨_,List.getElem_mem h3,by omega,by omega⟩
 rintro⟨b,hb,h1,h2⟩;obtain⟨i,hi,rfl⟩:=List.getElem_of_mem hb;rcases Nat.lt_or_ge i (posB at' l) with h3|h3
 ·right;refine⟨by omega,?_⟩;have h4:posB at' l-1<l.length:=by omega
  rw[List.getElem?_eq_getElem h4];simp only[decide_eq_true_eq];rcases Nat.lt_or_ge i (posB at' l-1) with f|f
  ·have j:=h.lt _ _ f h4;have m:=wI at' l (posB at' l-1) (by omega) h4;omega
  have e:i=posB at' l-1:=by omega
  simp only[e]at h2;omega
 left;right;have h4:posB at' l<l.length:=by omega
 rw[List.getElem?_eq_getElem h4];simp only[decide_eq_true_eq];rcases Nat.lt_or_ge (posB at' l) i with f|f
 ·have j:=h.lt _ _ f hi;have:=(h.mem _ (List.getElem_mem h4)).2.1;omega
 have e:i=posB at' l:=by omega
 simp only[e]at h1;omega
theorem ym3(a b:Int):(if a<b then(-1:Int) else if b<a then 1 else 0)=0↔a=b:=by
 split
 ·omega
 split<;>omega
def cmpZ (a b:Int):Int:=if a < b then -1 else if b < a then 1 else 0
theorem IN(x:Int)(w:World):Calls Tryz.prog 167 #[x] w fun e w'=>e= .returned (.bool false)/\w'=w:=by
 have b:(x !=x)=false:=by simp
 go_in;go_wp2;go_ret;exact⟨rfl,rfl⟩
theorem ym6(a b:Int)(w:World):Calls Tryz.prog 145 #[a,b] w fun e w'=>e= .returned (.int .i64 (cmpZ a b))/\w'=w:=by
 unfold cmpZ;by_cases h1:a<b
 ·rw[jP h1];go_in;go_wp2_with (go_at_call 167;refine(IN _ _).mono ?_;rintro e j ⟨rfl,i⟩;obtain rfl:=i.symm);go_ret;exact⟨rfl,rfl⟩
 rw[jN h1];by_cases h2:b<a
 ·rw[jP h2];go_in;go_wp2_with (go_at_call 167;refine(IN _ _).mono ?_;rintro e j ⟨rfl,i⟩;obtain rfl:=i.symm);go_ret;exact⟨rfl,rfl⟩
 rw[jN h2];go_in;go_wp2_with (go_at_call 167;refine(IN _ _).mono ?_;rintro e j ⟨rfl,i⟩;obtain rfl:=i.symm);go_ret;exact⟨rfl,rfl⟩
theorem AN(a n at':Int)(w:World):Calls Tryz.prog 144 #[.agg #[a,n],at'] w fun e w'=>e= .returned (.int .i64 (cmpZ a at'))/\Below w.heap.size w w':=by
 go_in;go_wp2_with (go_at_call 145;refine(ym6 _ _ _).mono ?_;rintro e i ⟨rfl,b⟩;obtain rfl:=b.symm);go_ret;exact⟨rfl,br.alloc lr _⟩
theorem ym9(l:List Bk)(v:Value)(at' W lo:Int)(w:World)(hr:RdK w v l)(H:okK W lo l)(O:l.length<=4096):
  Calls Tryz.prog 143 #[v,at',.func (.func 144) #[] #[]] w fun e w'=>e= .returned (.tuple #[.int .i64 (posB at' l),.bool (OA at' l)])/\Below w.heap.size w w':=by
 obtain⟨ao,cap,rfl,L,b1,r⟩:=hr.nth;obtain⟨n,R,S⟩:=hidv l.length;rw[<-S]at L O ⊢;clear S;go_in;go_wp2;go_loopw [9,10] (fun Z vj wr=>∃ i j:Nat,i<=j/\j<=n/\Z= .int .i64 i/\vj= .int .i64 j/\(∀ k (_:k<i) (I:k<l.length),l[k].a<at')/\(∀ k (_:j<=k) (I:k<l.length),at'<=l[k].a)/\Below w.heap.size w wr) (fun Z vj _=>(intOf vj).toNat-(intOf Z).toNat);case atStart=>exact⟨0,n,Nat.zero_le _,Nat.le_refl _,rfl,rfl,fun k h _=>by omega,fun k h I=>by have:=R.out;omega,Below.refl _ _⟩
 case round=>
  obtain⟨i,j,b4,hj,rfl,rfl,G,E,m⟩:=hrel;replace G:=hd' G;replace E:=hd' E;by_cases Y:i<j
  ·have B:(i+j)/2<l.length:=by have:=R.out;omega
   obtain⟨b,off,rfl,hb,hc⟩:=r (fun e=>by rw[e]at B;simp at B);obtain⟨c0,c1⟩:=hc _ B;replace c0:=kA m _ _ _ c0;replace c1:=kA m _ _ _ c1;have U:Hid (∀ h:l[(i+j)/2].a<at',∀ k (_:k<(i+j)/2+1) (I:k<l.length),l[k].a<at'):=fun h k I J=>by
    rcases Nat.lt_or_ge k ((i+j)/2) with h1|h1
    ·have:=H.lt k _ h1 B;have:=(H.mem _ (List.getElem_mem J)).2.1;omega
    have e:k=(i+j)/2:=by omega
    simp only[e];exact h
   have V:Hid (∀ h:at'<=l[(i+j)/2].a,∀ k (_:(i+j)/2<=k) (I:k<l.length),at'<=l[k].a):=fun h k I J=>by
    rcases Nat.lt_or_ge ((i+j)/2) k with h1|h1
    ·have:=H.lt _ k h1 J;have:=(H.mem _ (List.getElem_mem B)).2.1;omega
    have e:k=(i+j)/2:=by omega
    simp only[e];exact h
   have b0:(i:Int)+(j:Int)<=9000:=by omega
   have b7:((i:Int)+(j:Int))/2<(n:Int):=by omega
   have b6:(0:Int)<=((i:Int)+(j:Int))/2:=by omega
   generalize l[(i+j)/2].a=t at *;generalize l[(i+j)/2].n=T at *;by_cases C:t<at'
   ·have s:cmpZ t at'= -1:=jP C;replace U:=hd' (U C);clear V hc r;go_wp2_with fail;refine(AN t T at' _).mono ?_;rintro e w1 ⟨rfl,y⟩;rw[s];have o:=m.trans (y.mono m.size);go_wp2;exact⟨⟨(i+j)/2+1,j,by omega,hj,by go_num,rfl,U.out,E.out,o⟩,by simp[intOf];omega⟩
   have s:decide (cmpZ t at'<0)=false:=by unfold cmpZ;rw[jN C];split<;>simp
   replace V:=hd' (V (by omega));clear U hc r;go_wp2_with fail;refine(AN t T at' _).mono ?_;rintro e w1 ⟨rfl,y⟩;have o:=m.trans (y.mono m.size);generalize cmpZ t at'=z at *;go_wp2;exact⟨⟨i,(i+j)/2,by omega,by omega,rfl,by go_num,G.out,V.out,o⟩,by simp[intOf];omega⟩
  have M:i=j:=by omega
  subst M;have b5:¬ ((i:Int)<(i:Int)):=by omega
  have q:posB at' l=i:=RJ at' l i (by rw[<-R];exact hj) G (fun I=>E i lr I);have D:OA at' l=decide (∃ h:i<l.length,l[i].a=at'):=by rw[Bool.eq_iff_iff,uG,decide_eq_true_eq];simp only[q]
  replace q:=hd' q;replace D:=hd' D;clear Y;by_cases X:i<n
  ·have F:i<l.length:=R.out ▸ X;obtain⟨b,off,rfl,hb,hc⟩:=r (fun e=>by rw[e]at F;simp at F);obtain⟨c0,c1⟩:=hc _ F;replace c0:=kA m _ _ _ c0;replace c1:=kA m _ _ _ c1;have p:Hid (decide (∃ h:i<l.length,l[i].a=at')=decide (l[i].a=at')):=by show _=_;congr 1;exact propext ⟨fun ⟨_,h⟩=>h,fun h=>⟨F,h⟩⟩
   have b2:(0:Int)<=(i:Int):=by omega
   have b3:(i:Int)<(n:Int):=by omega
   generalize l[i].a=t at *;generalize l[i].n=T at *;have s:(cmpZ t at'==0)=decide (t=at'):=by rw[Bool.eq_iff_iff,beq_iff_eq,decide_eq_true_eq];exact ym3 _ _
   replace s:=hd' s;clear hc r;go_wp2_with fail;refine(AN t T at' _).mono ?_;rintro e w1 ⟨rfl,y⟩;have o:=m.trans (y.mono m.size);generalize cmpZ t at'=z at *;go_wp2;go_ret2;exact⟨by rw[q,D,p,<- s];rfl,o⟩
  have N:i=n:=by omega
  subst N;have p:decide (∃ h:i<l.length,l[i].a=at')=false:=jF (fun ⟨h,_⟩=>by have:=R.out;omega);replace p:=hd' p;go_wp2;go_ret2;exact⟨by rw[q,D,p];rfl,m⟩
theorem ZE{B s:Nat}{w:World}{sl:Value}{W:Int}{l:List Bk}(h:PM B w s sl W l)(at':Int):
  Calls Tryz.prog 118 #[some s,at'] w fun e w'=>e= .returned (.tuple #[.int .i64 (posB at' l),.bool (OA at' l)])/\Below w.heap.size w w':=by
 have c0:=h.cell0;go_in;go_wp2_with fail;refine(ym9 l sl at' W 0 _ h.rd h.ok h.len).mono ?_;rintro e i ⟨rfl,b⟩;go_wp2;go_ret2;exact⟨rfl,b⟩
end

section

open Go.RowKit

attribute [local go_sem ↓] Go.wp_at_zero Go.wp_at_succ

theorem yp9(n:Int)(w:World):Calls Tryz.prog 75 #[n] w fun e w'=>e= .returned (.pointer (some ⟨w.heap.size,0,.none⟩))/\Below w.heap.size w w'/\PM w.heap.size w' w.heap.size (.slice none 0 0) (capW n) []:=by
 have key:∀ W:Int,W=capW n->PM w.heap.size (w.alloc (.cells #[.slice none 0 0,W] 226)) w.heap.size (.slice none 0 0) (capW n) []:=fun W e=>by have:=vN n;exact⟨Nat.le_refl _,by rw[<-e];exact jA w _,⟨rfl,.inl ⟨rfl,rfl⟩⟩,by simp[Value.ownBlock],by show (0:Int)<=capW n;omega,by omega⟩
 by_cases h1:n<0
 ·have k:=key 0 (by unfold capW;rw[jP (.inl h1)]);go_in;go_wp2;go_ret;exact⟨rfl,br.alloc lr _,k⟩
 by_cases h2:4096<n
 ·have k:=key 0 (by unfold capW;rw[jP (.inr h2)]);have hd:decide (4096<n)=true:=jT h2;go_in;go_wp2;go_ret;exact⟨rfl,br.alloc lr _,k⟩
 have k:=key n (by unfold capW;rw[jN (by omega)]);have hd:decide (4096<n)=false:=jF h2;go_in;go_wp2;go_ret;exact⟨rfl,br.alloc lr _,k⟩
theorem yq9{B s:Nat}{w:World}{sl:Value}{W:Int}{l:List Bk}(h:PM B w s sl W l)(at':Int):
  Calls Tryz.prog 77 #[some s,at'] w fun e w'=>e= .returned (blkV (atB l at'))/\Below w.heap.size w w':=by
 have C:∀ o,PM B (w.alloc o) s sl W l:=fun o=>h.below (br.alloc lr _);obtain⟨ao,cap,rfl,G,O,y⟩:=h.rd.nth;have H:=h.len;by_cases z:OA at' l=true
 ·obtain⟨D,R⟩:=(uG at' l).1 z;obtain⟨b,off,rfl,hb,hc⟩:=y (fun e=>by rw[e]at D;simp at D);obtain⟨I,J⟩:=hc _ D;have q:Hid (blkV (atB l at')= .tuple #[.agg #[.int .i64 l[posB at' l].a,.int .i64 l[posB at' l].n],.bool true]):=by show _=_;unfold atB;rw[jP z,List.getElem?_eq_getElem D];rfl
  have U:((posB at' l:Nat):Int)<(l.length:Int):=by omega
  have T:(0:Int)<=((posB at' l:Nat):Int):=by omega
  clear hc y R;go_in;go_wp2_with fail;refine(ZE (C _) at').mono ?_;rintro e j ⟨rfl,i⟩;rw[z];have F:w.heap.size<j.heap.size:=by have:=i.size;simp at this;omega
  have r:j.heap[w.heap.size]?=some (.cells #[.int .i64 0,.int .i64 0] 152 (0,0)):=(i.block _ (by simp)).trans (jA w _);have r0:j.cell? ⟨w.heap.size,0,.none⟩=some (.int .i64 0):=iA r 0;have r1:j.cell? ⟨w.heap.size,1,.none⟩=some (.int .i64 0):=iA r 1;have N:j.frozen? ⟨w.heap.size,0,.none⟩=false:=DA r 0;have f1:j.frozen? ⟨w.heap.size,1,.none⟩=false:=DA r 1;have m:Below w.heap.size w j:=(br.alloc lr _).trans (i.mono (by simp));have c0:=(h.below m).cell0;replace I:=kA m _ _ _ I;replace J:=kA m _ _ _ J;have S:b≠w.heap.size:=by omega
  generalize l[posB at' l].a=L at *;generalize l[posB at' l].n=M at *;generalize posB at' l=p at *;clear r C;go_wp2;exact bodyPost_ret (v:= .tuple #[.agg #[L,M],.bool true]) (by simp[results,Tryz.results77,go_sem,r0,r1,F]) rfl ⟨by rw[q],((m.setCell lr _).setCell lr _)⟩
 have E:OA at' l=false:=by simpa using z
 have q:Hid (blkV (atB l at')= .tuple #[.agg #[.int .i64 0,.int .i64 0],.bool false]):=by show _=_;unfold atB;rw[jN z];rfl
 go_in;go_wp2_with fail;refine(ZE (C _) at').mono ?_;rintro e j ⟨rfl,i⟩;rw[E];have F:w.heap.size<j.heap.size:=by have:=i.size;simp at this;omega
 have r:j.heap[w.heap.size]?=some (.cells #[.int .i64 0,.int .i64 0] 152 (0,0)):=(i.block _ (by simp)).trans (jA w _);have r0:j.cell? ⟨w.heap.size,0,.none⟩=some (.int .i64 0):=iA r 0;have r1:j.cell? ⟨w.heap.size,1,.none⟩=some (.int .i64 0):=iA r 1;have N:j.frozen? ⟨w.heap.size,0,.none⟩=false:=DA r 0;have f1:j.frozen? ⟨w.heap.size,1,.none⟩=false:=DA r 1;have m:Below w.heap.size w j:=(br.alloc lr _).trans (i.mono (by simp));generalize posB at' l=p at *;clear r C;go_wp2;exact bodyPost_ret (v:= .tuple #[.agg #[.int .i64 0,.int .i64 0],.bool false]) (by simp[results,Tryz.results77,go_sem,r0,r1,F]) rfl ⟨by rw[q],((m.setCell lr _).setCell lr _)⟩
theorem uS:(Tryz.prog.info? 152).map (fun i=>(i.zero,i.size,i.bytes))=some (some (.agg #[.int .i64 0,.int .i64 0]),2,16):=by kernel_rfl
attribute [local go_sem high] FJ

section

variable {P:Program} {w:World}

theorem ykn{z:Array Oper}{o:Oper}{a:Act}{K:Act->World->Prop}{Q:Exit->Act->World->Prop}{E:Prop}(F:o.guard=none)(s x:Operand)(t:TypeId)(O:o.op= .call { callee:= .builtin .append,args:= #[s,x],argTypes:= #[t,t]}) (e:TypeId) (i:TypeInfo) (sz:Nat) (J:P.underlying t=some (.slice e)) (hi:P.info? e=some i) (q:i.size=sz) (I:0<sz)(g n cap:Nat) (hs:a.eval s= .slice (some ⟨g,0,.none⟩) n cap) (f:List Value) (D:w.heap[g]?=some (.cells f.toArray e (0,0)))(u:Value) (T:a.eval x=u) (m:Nat) (news:List Value) (R:RdS w sz u m news) (h1:∀ u ∈ news,u.oneCell'=true) (p:n+m<=cap) (r:n*sz+m*sz<=f.length)(h:∀ w',w'.heap[g]?=some (.cells (laid f (n*sz) news).toArray e (0,0))->w.grownBy w' (some g)->K (a.put o.dst (.slice (some ⟨g,0,.none⟩) (n+m) cap)) w'):
  if Region.wanted o (yielded z a.tmps)=true then Oper.wp P o a w K Q else E:=by
 have S:Region.wanted o (yielded z a.tmps)=true:=by simp[Region.wanted,F]
 rw[jP S];obtain⟨ao,c,rfl,L,M,B,y⟩:=R;subst q;have l:∃ w',(Builtin.append_ #[t,t] o.type #[.slice (some ⟨g,0,.none⟩) n cap,.slice ao m c]).run P w= .ok (.slice (some ⟨g,0,.none⟩) (n+m) cap) w'/\w'.heap[g]?=some (.cells (laid f (n*i.size) news).toArray e (0,0))/\w.grownBy w' (some g):=by
  rcases Nat.eq_zero_or_pos m with h0|h0
  ·subst h0;have N:news= []:=List.eq_nil_of_length_eq_zero (by simpa using B);subst N;refine⟨w,?_,by rw[RN];exact D,World.grownBy.refl w _⟩;have G:n<=cap:=by omega
   cases ao<;>simp[Builtin.append_,run_underlying J,sizeOf,typeInfo,hi,Builtin.lenOf,Builtin.firstCells,G,storeCells,loadCells,loadCellsFrom]
  obtain⟨b,off,rfl,_,C⟩:=y (by omega);have H:=run_append_room (P:=P) w t o.type e i J hi g n cap f.toArray D ⟨b,off,.none⟩ m c news B (fun j u hu=>by rw[zI,<- hu];exact C j (by have:=(List.getElem?_eq_some_iff.1 hu).1;omega)) h1 p (by rw[B];simpa using r);exact⟨_,H,by simpa[laid,B] using setRow_heap w g f.toArray _ e _ D,FN w g _⟩
 obtain⟨w',l,h2,h3⟩:=l;unfold Oper.wp execOp;simp only[O,resolve,invoke,builtin,Sem.run_bind,Sem.run_pure,Result.andThen_ok,List.map_toArray,List.map_cons,List.map_nil,hs,T,l];exact h w' h2 h3
end

theorem GN{w:World}{B:Nat}{E:TypeId}{g n cap:Nat}{b:List Value}{xs:List Value}(j:B<=g)(l:w.heap[g]?=some (.cells b.toArray E (0,0)))(f:n<=cap)(hc:cap<=maxLen)(m:b.length=cap*2)(i:b.take (n*2)=xs):
  w.ownsRow B E 2 (.slice (some ⟨g,0,.none⟩) n cap) n xs:=by
 refine⟨?_,.inr ⟨g,cap,b.toArray,rfl,j,l,f,hc,by simpa using m,by simpa using i⟩⟩;rw[<-i,List.length_take];have:=Nat.mul_le_mul_right 2 f;omega
theorem ym2{B:Nat}{w:World}{g n cap i:Nat}{l:List Bk}(T:w.ownsRow B 152 2 (.slice (some ⟨g,0,.none⟩) n cap) n (BA l))(R:n=l.length)(hi:i<n)(b0:n<=4096):
  Calls Tryz.prog 166 #[.slice (some ⟨g,0,.none⟩) n cap,i,.int .i64 ((i:Int)+1)] w fun e w'=>
   e= .returned (.slice (some ⟨g,0,.none⟩) (n-1) cap)/\w'.ownsRow B 152 2 (.slice (some ⟨g,0,.none⟩) (n-1) cap) (n-1) (BA (l.take i++l.drop (i+1)))/\w.grownBy w' (some g):=by
 rcases T.2 with⟨h,_⟩|⟨g',X,G,e,M,Z,ba,H,p,m⟩
 ·cases h
 injection e with D _ e3;injection D with D;injection D with D;subst D e3;obtain⟨cl,rfl⟩:∃ cl:List Value,G=cl.toArray:=⟨G.toList,by simp⟩;have m:cl.take (n*2)=BA l:=by simpa using m
 have p:cl.length=cap*2:=by simpa using p
 have Y:(cap:Int)<=9223372036854775807:=by simp only[maxLen]at H;omega
 have J:RdS w 2 (.slice (some ⟨g,0,.none⟩) n cap) n (BA l):=RdS.AC T;have s:=J.cut (l:=i+1) (h:=n) (by omega) lr;rw[SQ]at s;have j:(l.drop (i+1)).length=n-(i+1):=by rw[List.length_drop,<- R]
 rw[List.take_of_length_le (by rw[bI,j];exact Nat.le_refl _)]at s;obtain⟨F,q⟩:∃ F,F=laid cl (i*2) (BA (l.drop (i+1))):=⟨_,rfl⟩;have z:F.length=cap*2:=by rw[q,eI (by rw[bI,j];omega)];exact p
 have L:F.take ((n-1)*2)=BA (l.take i++l.drop (i+1)):=by
  have D:cl.take (i*2)=BA (l.take i):=by rw[<-xN,<- m,List.take_take,Nat.min_eq_left (by omega)]
  have e2:(BA (l.take i)++BA (l.drop (i+1))).length=(n-1)*2:=by rw[<-vG,bI,List.length_append,List.length_take,j];omega
  rw[q];unfold laid;rw[D,vG,<- e2,List.take_left]
 have r:∀ (w':World) (cs:List Value),cs.length=1*2->w'.heap[g]?=some (.cells (laid F ((n-1)*2) cs).toArray 152 (0,0))->w'.ownsRow B 152 2 (.slice (some ⟨g,0,.none⟩) (n-1) cap) (n-1) (BA (l.take i++l.drop (i+1))):=fun w' cs h1 h2=>by refine GN M h2 (by omega) H (by rw[eI (by omega)];exact z) ?_;unfold laid;rw[List.append_assoc,List.take_append,List.length_take,Nat.min_eq_left (by omega),Nat.sub_self,List.take_zero,List.append_nil,List.take_take,Nat.min_self,L]
 replace q:=hd' q;replace r:=hd' r;have O:=hd' Z;have b2:(0:Int)<=(i:Int):=by omega
 have b4:(i:Int)+1<=(n:Int):=by omega
 have b1:(n:Int)<=(cap:Int):=by omega
 have b3:(i:Int)<=(cap:Int):=by omega
 have E:((i:Int)==(i:Int)+1)=false:=by rw[beq_eq_false_iff_ne];omega
 have bb:((i:Int)+1).toNat=i+1:=by omega
 have bc:(0:Int)<=(i:Int)+1:=by omega
 obtain⟨i0,C,U,V,bf⟩:=info_parts uS;clear L Z m J T;replace R:=hd' R;replace z:=hd' z;replace p:=hd' p;clear j;go_in;go_wp2
 go_region_held3 (fun _=>True) (trivial)
  ((refine ykn (by rfl) (.tmp 22) (.tmp 25) 224 (by rfl) 152 i0 2 Tryz.underlying224 C V (by omega) g i cap (by rfl) cl (show w.drew.heap[g]?=_ from O.out) _ (by rfl) (n-(i+1)) _ s.drew (sH _) (by omega) (by rw[p];omega) ?_;intro w1 y b))
 rw[<-q]at y;have S:i+(n-(i+1))=n-1:=by omega
 have b:w.grownBy w1 (some g):=⟨b.os,b.tape,b.output,b.size,b.block⟩;have b5:((i+(n-(i+1)):Nat):Int)=(n:Int)-1:=by omega
 have b6:(0:Int)<=(n:Int)-1:=by omega
 have b7:((n:Int)-1).toNat=n-1:=by omega
 have b8:(n:Int)-1<=(n:Int):=by omega
 rw[S];replace y:=hd' y;have b9:n-(n-1)=1:=by omega
 go_wp2_with (refine yk2 rfl (.tmp 31) 224 rfl 152 i0 _ 2 Tryz.underlying224 C U rfl (by simp[Value.cells,Value.oneCell']) (by omega) (some ⟨g,(n-1)*2,.none⟩) 1 (cap-(n-1)) rfl g ((n-1)*2) F 152 y (fun _=>rfl) (by rw[z];omega) ?_;intro w2 cs I N o);go_ret;exact⟨rfl,r w2 cs I N,⟨o.os.trans b.os,o.tape.trans b.tape,o.output.trans b.output,Nat.le_trans b.size o.size,fun k hk E=>(o.block k (by have:=b.size;omega) E).trans (b.block k hk E)⟩⟩
theorem ypp{B s:Nat}{w:World}{sl:Value}{W:Int}{l:List Bk}(h:PM B w s sl W l)(at':Int):
  Calls Tryz.prog 140 #[some s,at'] w fun e w'=>e= .returned (.bool (OA at' l))/\∃ E,PM B w' s E W (UA l at')/\Only (foot s sl) w w'/\(∀ k,foot s E k->foot s sl k):=by
 have c0:=h.cell0;have o:=h.len;have D:=yO (at':=at') h.ok;by_cases r:OA at' l=true
 ·obtain⟨M,Y⟩:=(uG at' l).1 r;rw[r];have i:UA l at'=l.take (posB at' l)++l.drop (posB at' l+1):=by unfold UA YH;rw[jP r]
  rcases h.owns.2 with⟨_,h0⟩|⟨g,cap,S,rfl,U,_,_,_⟩
  ·omega
  obtain⟨n,I,m⟩:=hidv l.length;have C:g≠s:=fun e=>h.apart (by rw[e];rfl);have b1:=h.lt;rw[<-m]at c0 o M h ⊢;have L:w.ownsRow B 152 2 (.slice (some ⟨g,0,.none⟩) n cap) n (BA l):=by rw[m];have:=h.owns;rw[m]at this;exact this
  have Z:=h.free;have b0:=h.head;have b3:=h.small;have H:=h.lies;clear m Y;go_in;go_wp2_with fail;refine(ZE h at').mono ?_;rintro e N ⟨rfl,b⟩;rw[r];have h1:=h.below b;have q:N.ownsRow B 152 2 (.slice (some ⟨g,0,.none⟩) n cap) n (BA l):=by have:=h1.owns;rw[<-I]at this;exact this
  have R:=h1.cell0;have b2:=b.size;go_wp2_with fail;refine(ym2 q I M o).mono ?_;rintro e F ⟨rfl,J,z⟩;have j:F.heap[s]?=some (.cells #[.slice (some ⟨g,0,.none⟩) n cap,W] 226 (0,0)):=(z.block s h1.lt (by simpa using fun e=>C e.symm)).trans h1.head;have O:=iA j;have T:=DA j 0
  have V:Only (foot s (.slice (some ⟨g,0,.none⟩) n cap)) w (F.setCell ⟨s,0,.none⟩ (.slice (some ⟨g,0,.none⟩) (n-1) cap)):=
   ((Only.of_below b).grown z (fun k p=>.inl (.inr p))).setCell (.inl (.inl rfl)) _
  have X:PM B (F.setCell ⟨s,0,.none⟩ (.slice (some ⟨g,0,.none⟩) (n-1) cap)) s (.slice (some ⟨g,0,.none⟩) (n-1) cap) W (UA l at'):=by
   refine⟨h.lies,?_,?_,h.apart,D,h.small⟩
   ·rw[heap_setCell_same F s 0 _ _ _ j];rfl
   have G:(UA l at').length=n-1:=by rw[i,List.length_append,List.length_take,List.length_drop,<- I];omega
   rw[G,i];exact PB J (fun k p=>heap_setCell_other F ⟨s,0,.none⟩ k _ (fun e=>C (by simpa[Value.ownBlock,e] using p)))
  clear j i D;go_wp2;go_ret;exact⟨rfl,_,X,V,fun k p=>p⟩
 have y:OA at' l=false:=by simpa using r
 have i:UA l at'=l:=by unfold UA;rw[jN r]
 rw[i,y];go_in;go_wp2_with fail;refine(ZE h at').mono ?_;rintro e N ⟨rfl,b⟩;rw[y];go_wp2;go_ret;exact⟨rfl,_,h.below b,Only.of_below b,fun k p=>p⟩
end

section

open Go.RowKit

attribute [local go_sem ↓] Go.wp_at_zero Go.wp_at_succ

theorem RdS.of_block{w:World}{g sz off n cap:Nat}{cl:List Value}{t:TypeId}(b:w.heap[g]?=some (.cells cl.toArray t (0,0)))(j:off+n*sz<=cl.length)(f:n<=cap)(hc:(cap:Int)<=9223372036854775807):
  RdS w sz (.slice (some ⟨g,off,.none⟩) n cap) n ((cl.drop off).take (n*sz)):=by
 refine⟨_,cap,rfl,f,hc,by rw[List.length_take,List.length_drop];omega,fun _=>⟨g,off,rfl,(jE b),fun i hi=>?_⟩⟩;rw[cell_of_row w g _ _ t (0,0) b,List.getElem?_take,jP hi,List.getElem?_drop];simp
theorem yo6{cl A D b:List Value}{i n:Nat}(j:A.length=i*2)(m:D.length=(n-i)*2)(hb:b.length=2)(hi:i<=n)(l:cl.take (n*2)=A++D)(o:(n+1)*2<=cl.length):(laid (laid cl ((i+1)*2) D) (i*2) b).take ((n+1)*2)=A++(b++D):=by
 have h1:(laid cl ((i+1)*2) D).take (i*2)=A:=by
  unfold laid;rw[List.append_assoc,List.take_append,List.length_take,List.take_take,Nat.min_eq_left (by omega),show i*2-min ((i+1)*2) cl.length=0 from by omega,List.take_zero,List.append_nil];have:(cl.take (n*2)).take (i*2)=(A++D).take (i*2):=by rw[l]
  rw[List.take_take,Nat.min_eq_left (by omega),<- j,List.take_left]at this;rw[<-j];exact this
 have h2:(laid cl ((i+1)*2) D).drop (i*2+b.length)=D++cl.drop ((i+1)*2+D.length):=by
  have f:(cl.take ((i+1)*2)).length=(i+1)*2:=by rw[List.length_take];omega
  unfold laid;rw[List.append_assoc,List.drop_append,f,hb,List.drop_of_length_le (by omega),show i*2+2-(i+1)*2=0 from by omega,List.drop_zero,List.nil_append]
 show ((laid cl ((i+1)*2) D).take (i*2)++b++(laid cl ((i+1)*2) D).drop (i*2+b.length)).take ((n+1)*2)=_;rw[h1,h2,<- List.append_assoc,<- List.append_assoc A b D];exact List.take_left' (by rw[List.length_append,List.length_append];omega)
theorem yoy{A R D b:List Value}{i n:Nat}(f:A.length=i*2)(j:D.length=(n-i)*2)(hb:b.length=2)(hi:i<=n)(_hl:(n+1)*2<=(A++R).length):(laid (laid (A++R) (i*2) b) ((i+1)*2) D).take ((n+1)*2)=A++(b++D):=by
 have h1:laid (A++R) (i*2) b=(A++b)++R.drop 2:=by unfold laid;rw[List.take_append,f,Nat.sub_self,List.take_zero,List.append_nil,List.take_of_length_le (by omega),List.drop_append,List.drop_of_length_le (by omega),List.nil_append,f,hb,Nat.add_sub_cancel_left]
 rw[h1];have h2:(A++b).length=(i+1)*2:=by rw[List.length_append];omega
 unfold laid;rw[<-h2,List.take_left,<- List.append_assoc];exact List.take_left' (by rw[List.length_append,List.length_append];omega)
theorem iK{B:Nat}{w:World}{v:Value}{n i V:Nat}{l:List Bk}{b:Bk}(ho:w.ownsRow B 152 2 v n (BA l))(hn:n=l.length)(hi:i<=n)(cz:n<=4096)(hB:B<=w.heap.size)(hv:w.heap[V]?=some (.cells #[b.a,b.n] 152 (0,0))) (ba:v.ownBlock≠some V):
  Calls Tryz.prog 165 #[v,i,.slice (some ⟨V,0,.none⟩) 1 1] w fun e w'=>
   ∃ v',e= .returned v'/\w'.ownsRow B 152 2 v' (n+1) (BA (l.take i++b::l.drop i))/\w.grownBy w' v.ownBlock/\(∀ k,v'.ownBlock=some k->v.ownBlock=some k\/w.heap.size<=k):=by
 obtain⟨i0,G,bk,b8,bm⟩:=info_parts uS;have bj:RdS w 2 (.slice (some ⟨V,0,.none⟩) 1 1) 1 b.cells:=RdS.new (cs:=b.cells.toArray) hv rfl (by omega);have T:∀ u ∈ b.cells,u.oneCell'=true:=by intro u hu;simp only[Bk.cells,List.mem_cons,List.not_mem_nil,or_false]at hu;rcases hu with rfl|rfl<;>rfl
 by_cases bz:i=n
 ·subst bz;obtain⟨ao,cap,e,bw,bg,_⟩:=RdS.AC ho;subst e;have y:BA (l.take i++b::l.drop i)=BA l++b.cells:=by rw[List.take_of_length_le (by omega),List.drop_of_length_le (by omega),vG];simp[BA]
  replace y:=hd' y;replace hn:=hd' hn;rcases Nat.eq_or_lt_of_le bw with bf|bf
  ·subst bf;go_in;go_wp2_with (refine AG rfl (.tmp 23) (.tmp 24) 224 rfl B 152 i0 _ 2 16 Tryz.underlying224 G bk b8 bm rfl (by omega) _ i (BA l) rfl ho _ 1 b.cells rfl bj T (by simp only[maxLen];omega) (by omega) hB ?_;intro v1 w1 S z b0);go_ret;refine⟨_,rfl,by rw[y];exact S,z,fun k C=>?_⟩;rcases b0 with h|h
   ·exact .inl (h.symm.trans C)
   right;have:some w.heap.size=some k:=h.symm.trans C;injection this with this;omega
  have ch:¬ (cap=i):=by omega
  go_in;go_wp2_with (refine AG rfl (.tmp 23) (.tmp 24) 224 rfl B 152 i0 _ 2 16 Tryz.underlying224 G bk b8 bm rfl (by omega) _ i (BA l) rfl ho _ 1 b.cells rfl bj T (by simp only[maxLen];omega) (by omega) hB ?_;intro v1 w1 S z b0);go_ret;refine⟨_,rfl,by rw[y];exact S,z,fun k C=>?_⟩;rcases b0 with h|h
  ·exact .inl (h.symm.trans C)
  right;have:some w.heap.size=some k:=h.symm.trans C;injection this with this;omega
 have bz:i<n:=by omega
 rcases ho.2 with⟨_,h0⟩|⟨g,cap,bn,rfl,c8,X,e8,bg,s,o⟩
 ·omega
 have c7:V≠g:=fun e=>ba (by rw[e];rfl);obtain⟨cl,rfl⟩:∃ cl:List Value,bn=cl.toArray:=⟨bn.toList,by simp⟩;have o:cl.take (n*2)=BA l:=by simpa using o
 have s:cl.length=cap*2:=by simpa using s
 have cp:(cap:Int)<=9223372036854775807:=by simp only[maxLen]at bg;omega
 have O:(BA (l.take i)).length=i*2:=by rw[bI,List.length_take];omega
 have E:(BA (l.drop i)).length=(n-i)*2:=by rw[bI,List.length_drop,<- hn]
 have y:BA (l.take i++b::l.drop i)=BA (l.take i)++(b.cells++BA (l.drop i)):=by rw[vG];rfl
 have b6:BA l=BA (l.take i)++BA (l.drop i):=by rw[<-vG,List.take_append_drop]
 have b2:b.cells.length=2:=rfl;have e5:(0:Int)<=(i:Int):=by omega
 have cy:(i:Int)<(n:Int):=by omega
 have cq:(i:Int)<=(n:Int):=by omega
 have e0:(n:Int)<=(cap:Int):=by omega
 have e9:((i:Int)==(n:Int))=false:=by rw[beq_eq_false_iff_ne];omega
 have ef:IntKind.i64.wrap ((i:Int)+1)=(i:Int)+1:=by rw[IntKind.wrap_i64];omega
 have e2:(0:Int)<=(i:Int)+1:=by omega
 have e3:((i:Int)+1).toNat=i+1:=by omega
 have bb:(Tryz.prog.info? 152).map (·.size)=some 2:=by rw[G];simp[b8]
 have cr:(i:Int)<=(n:Int)+1:=by omega
 have cu:(i:Int)+1<=(n:Int)+1:=by omega
 have cv:(i:Int)<=((n+1:Nat):Int):=by omega
 have cx:(i:Int)+1<=((n+1:Nat):Int):=by omega
 have bf:¬ (cap=i):=by omega
 by_cases bi:n+1<=cap
 ·have cj:¬ (cap=i+1):=by omega
  have eb:(n:Int)+1<=(cap:Int):=by omega
  have b5:∀ W:World,(sizeOf 152).run Tryz.prog W= .ok 2 W:=fun W=>by simp[sizeOf,typeInfo,G,b8]
  have c5:w.shape? V=some (152,2):=by simp[World.shape?,hv]
  have c4:w.shape? g=some (152,cap*2):=by simp[World.shape?,X,s]
  have ea:∀ off lb cb,(callFunc 176 #[.slice (some ⟨V,0,.none⟩) 1 1,.slice (some ⟨g,off,.none⟩) lb cb]).run Tryz.prog w= .ok (.value (.bool false)) w:=fun off lb cb=>by
   rw[run_callFunc_extern Tryz.func176 (by kernel_rfl) (by kernel_rfl) (by kernel_rfl) (e:=Extern.SlicesOverlaps.overlaps #[224,224] #[4]) (by kernel_rfl),
    Lib.run_overlaps_apart w 224 4 152 Tryz.underlying224 2 b5 ⟨V,0,.none⟩ ⟨g,off,.none⟩ 1 1 lb cb c7 _ _ _ _ c5 c4 (by omega) (DA hv 0) (DA hv 2)]
   rfl
  have cf:=RdS.of_block (sz:=2) (off:=i*2) (n:=n+1-i) (cap:=cap-i) X (by omega) (by omega) (by omega);obtain⟨L1,Y⟩:∃ L1,L1=laid cl ((i+1)*2) (BA (l.drop i)):=⟨_,rfl⟩;have D:L1.length=cap*2:=by rw[Y,eI (by rw[E];omega)];exact s
  obtain⟨L2,Z⟩:∃ L2,L2=laid L1 (i*2) b.cells:=⟨_,rfl⟩;have H:L2.length=cap*2:=by rw[Z,eI (by rw[b2];omega)];exact D
  have q:L2.take ((n+1)*2)=BA (l.take i++b::l.drop i):=by rw[Z,Y,y];exact yo6 O E b2 (by omega) (by rw[o,b6]) (by omega)
  have U:((cl.drop (i*2)).take ((n+1-i)*2)).take ((n-i)*2)=BA (l.drop i):=by rw[List.take_take,Nat.min_eq_left (by omega),show (n-i)*2=n*2-i*2 from by omega,<- List.drop_take,o,b6,<- O,List.drop_left]
  have b3:∀ w':World,w'.heap[g]?=some (.cells L2.toArray 152 (0,0))->w'.ownsRow B 152 2 (.slice (some ⟨g,0,.none⟩) (n+1) cap) (n+1) (BA (l.take i++b::l.drop i)):=fun w' h=>GN c8 h bi bg H q;replace Y:=hd' Y;replace Z:=hd' Z;replace U:=hd' U;replace b3:=hd' b3;replace D:=hd' D;replace s:=hd' s;replace X:=hd' X;replace hn:=hd' hn;replace E:=hd' E;replace hv:=hd' hv;clear O y b6 q o H c5 c4 ho b2;go_in;go_wp2
  go_region_held3 (fun _=>True) (trivial)
   ((refine rR (by rfl) (.tmp 73) (.tmp 76) 224 224 (by rfl) 152 2 Tryz.underlying224 bb (by omega) (some ⟨g,(i+1)*2,.none⟩) (n-i) (cap-(i+1)) (by rfl) _ (by rfl) (n-i) (n+1-i) _ g ((i+1)*2) cl 152 (show w.drew.heap[g]?=_ from X.out) (fun _=>rfl) cf.drew (by simp only[Nat.min_def];split<;>omega) (by rw[s];omega) (by rw[U];exact sH _) ?_;intro w1 M j))
  rw[U,<- Y]at M;have bx:=hd' M;have j:w.grownBy w1 (some g):=⟨j.os,j.tape,j.output,j.size,j.block⟩;have c6:w1.heap[V]?=some (.cells #[b.a,b.n] 152 (0,0)):=(j.block V (jE hv.out) (by simpa using c7)).trans hv.out;have b4:RdS w1 2 (.slice (some ⟨V,0,.none⟩) 1 1) 1 b.cells:=RdS.new (cs:=b.cells.toArray) c6 rfl (by omega);clear M c6;go_wp2_with (refine qR rfl (.tmp 80) (.tmp 81) 224 224 rfl 152 2 Tryz.underlying224 bb (by omega) (some ⟨g,i*2,.none⟩) (n+1-i) (cap-i) rfl _ rfl 1 1 b.cells g (i*2) L1 152 bx (fun _=>rfl) b4 (by simp only[Nat.min_def];split<;>omega) (by rw[D];omega) (fun u hu=>T u (List.mem_of_mem_take hu)) ?_;intro w2 N m);go_ret;have r:w2.heap[g]?=some (.cells L2.toArray 152 (0,0)):=by rw[Z];exact N
  exact⟨_,rfl,b3 w2 r,⟨m.os.trans j.os,m.tape.trans j.tape,m.output.trans j.output,Nat.le_trans j.size m.size,fun k C ba=>(m.block k (by have:=j.size;omega) ba).trans (j.block k C ba)⟩,fun k C=>.inl C⟩
 have bc:cap=n:=by omega
 replace X:=X;have bp:=RdS.of_block (sz:=2) (off:=0) (n:=i) (cap:=cap) X (by omega) (by omega) (by omega);have bq:(cl.drop 0).take (i*2)=BA (l.take i):=by rw[List.drop_zero,<- xN,<- o,List.take_take,Nat.min_eq_left (by omega)]
 rw[bq]at bp;have bs:=RdS.of_block (sz:=2) (off:=i*2) (n:=n-i) (cap:=cap-i) X (by omega) (by omega) (by omega);have bu:(cl.drop (i*2)).take ((n-i)*2)=BA (l.drop i):=by rw[show (n-i)*2=n*2-i*2 from by omega,<- List.drop_take,o,b6,<- O,List.drop_left]
 rw[bu]at bs;have b7:(n:Int)+1-(i:Int)=((n+1-i:Nat):Int):=by omega
 have q:∀ R:List Value,(n+1)*2<=(BA (l.take i)++R).length->(laid (laid (BA (l.take i)++R) (i*2) b.cells) ((i+1)*2) (BA (l.drop i))).take ((n+1)*2)=BA (l.take i++b::l.drop i):=fun R h=>by rw[y];exact yoy O E b2 (by omega) h
 have ec:¬ ((n:Int)+1<=(cap:Int)):=by omega
 have e4:g<w.heap.size:=(jE X);have ed:V<w.heap.size:=(jE hv);have b9:i+(n+1-i)=n+1:=by omega
 replace q:=hd' q;replace b7:=hd' b7;replace s:=hd' s;replace X:=hd' X;replace hn:=hd' hn;replace E:=hd' E;replace hv:=hd' hv;replace O:=hd' O;replace bc:=hd' bc;replace b9:=hd' b9;clear y b6 o ho b2 bu bq;go_in;go_wp2_with (first|(refine ykm rfl (.tmp 34) (.tmp 39) 224 3 rfl 152 i0 _ 2 16 Tryz.underlying224 Tryz.underlying3 G bk b8 bm rfl (by omega) (some ⟨g,0,.none⟩) i cap (n+1-i) rfl _ rfl b7 (BA (l.take i)) bp (by have:=bc.out;omega) (by omega) (by omega) ?_;intro p w1 R bv ca M D I;rw[b9]at bv;rw[b9];replace M:=hd' M;replace D:=hd' D;have cg:(n:Int)+1<=(p:Int):=(by omega);have ck:¬ (p=i):=(by omega);have cm:¬ (p=i+1):=(by omega);have b4:RdS w1 2 (.slice (some ⟨V,0,.none⟩) 1 1) 1 b.cells:=RdS.below bj I;have cc:(n+1)*2<=(BA (l.take i)++R).length:=(by rw[D];omega))|(refine qR rfl (.tmp 43) (.tmp 44) 224 224 rfl 152 2 Tryz.underlying224 bb (by omega) (some ⟨w.heap.size,i*2,.none⟩) (n+1-i) (p-i) rfl _ rfl 1 1 b.cells w.heap.size (i*2) (BA (l.take i)++R) 152 M (fun _=>rfl) b4 (by simp only[Nat.min_def];split<;>omega) (by omega) (fun u hu=>T u (List.mem_of_mem_take hu)) ?_;intro w2 N m;replace N:=hd' N;have J:Below w.heap.size w w2:=⟨m.os.trans I.os,m.tape.trans I.tape,m.output.trans I.output,Nat.le_trans I.size m.size,fun k C=>(m.block k (Nat.lt_of_lt_of_le C I.size) (fun e=>by injection e with e;omega)).trans (I.block k C)⟩));have c9:=RdS.below bs J;have H:(laid (BA (l.take i)++R) (i*2) b.cells).length=p*2:=by rw[eI (by show i*2+2<=_;omega)];exact D.out
 have L:=q R cc;replace H:=hd' H;replace L:=hd' L;have e1:w.heap.size<w2.heap.size:=(jE N.out);have e6:(b.cells.take (1*2))=b.cells:=List.take_of_length_le (Nat.le_refl 2);have r:=N.out;rw[e6]at r;replace r:=hd' r;generalize laid (BA (l.take i)++R) (i*2) b.cells=L1 at *;clear e6 N
 go_region_held3 (fun _=>True) (trivial)
  ((refine rR (by rfl) (.tmp 50) (.tmp 53) 224 224 (by rfl) 152 2 Tryz.underlying224 bb (by omega) (some ⟨w.heap.size,(i+1)*2,.none⟩) (n-i) (p-(i+1)) (by rfl) _ (by rfl) (n-i) (n-i) _ w.heap.size ((i+1)*2) L1 152 (show w2.drew.heap[w.heap.size]?=_ from r.out) (fun _=>rfl) c9.drew (by simp only[Nat.min_def];split<;>omega) (by rw[H];omega) (fun u hu=>sH _ u (List.mem_of_mem_take hu)) ?_;intro w3 bh F))
 have e7:(BA (l.drop i)).take ((n-i)*2)=BA (l.drop i):=List.take_of_length_le (by rw[E];exact Nat.le_refl _);rw[e7]at bh;have cd:w3.ownsRow B 152 2 (.slice (some ⟨w.heap.size,0,.none⟩) (n+1) p) (n+1) (BA (l.take i++b::l.drop i)):=GN hB bh bv ca (by rw[eI (by rw[E,H];omega)];exact H.out) L.out;have b1:Below w.heap.size w w3:=⟨F.os.trans J.os,F.tape.trans J.tape,F.output.trans J.output,Nat.le_trans J.size F.size,fun k C=>(F.block k (Nat.lt_of_lt_of_le C J.size) (fun e=>by injection e with e;omega)).trans (J.block k C)⟩;clear bh e7;go_wp2;go_ret;refine⟨_,rfl,cd,⟨b1.os,b1.tape,b1.output,b1.size,fun k C _=>b1.block k C⟩,fun k C=>.inr ?_⟩;have:some w.heap.size=some k:=C;injection this with this;omega
end

end Go.Proofs.YtmmbicppdjgbmaaGreat
