/- Texts bound together: Rw Only MchW MchQ. -/
import Derived.Deep.AppendLies

import Derived.Deep.RegionLaw

import Derived.Maps.AppendAt

import Derived.Deep.Draws

import Derived.Deep.DrawnRows

import Derived.Test.YtkbddndcegpllaaGreatBt1

set_option linter.all false
set_option maxHeartbeats 400000
namespace Go.Proofs.YtkbddndcegpllaaGreat

section

open Go.RowKit

theorem zqn(b o n:Nat):(⟨b,o,.none⟩:Addr).add n=⟨b,o+n,.none⟩:=by
 unfold Addr.add;split<;>simp_all
def RdS (w:World) (sz:Nat) (v:Value) (n:Nat) (cs:List Value):Prop:=∃ ao cap,v= .slice ao n cap/\n<=cap/\(cap:Int)<=9223372036854775807/\cs.length=n * sz/\
 (n≠0->∃ b off,ao=some ⟨b,off,.none⟩/\b < w.heap.size/\∀ i,i < n * sz->w.cell? ⟨b,off + i,.none⟩=cs[i]?)
def cutV (a:Option Addr) (l h m s:Nat):Value:=sliced a l h m s
section

variable {w w':World} {sz n:Nat} {v:Value} {cs:List Value}

theorem RdS.keep(h:RdS w sz v n cs)(hs:w.heap.size<=w'.heap.size)(f:∀ b o,b<w.heap.size->w'.cell? ⟨b,o,.none⟩=w.cell? ⟨b,o,.none⟩):RdS w' sz v n cs:=
 let ⟨ao,cap,e,h1,h2,h3,h4⟩:=h
 ⟨ao,cap,e,h1,h2,h3,fun j=>let ⟨b,off,ea,hlt,hc⟩:=h4 j;⟨b,off,ea,Nat.lt_of_lt_of_le hlt hs,fun i hi=>(f b _ hlt).trans (hc i hi)⟩⟩
theorem RdS.below(h:RdS w sz v n cs)(hb:Below w.heap.size w w'):RdS w' sz v n cs:=h.keep hb.size fun b o f=>hb.cell (p:=⟨b,o,.none⟩) f
theorem RdS.drew(h:RdS w sz v n cs):RdS w.drew sz v n cs:=h
theorem RdS.drewN(h:RdS w sz v n cs)(k:Nat):RdS (w.drewN k) sz v n cs:=h
theorem RdS.alloc(h:RdS w sz v n cs)(o:Obj):RdS (w.alloc o) sz v n cs:=h.below (br.alloc lr o)
theorem RdS.zew{b:Nat}{e:TypeId}(h:w.ownsRow b e sz v n cs):RdS w sz v n cs:=by
 rcases h.2 with⟨l,f⟩|⟨g,cap,j,rfl,l,f,m,o,q,p⟩
 ·subst f;exact⟨none,0,l,Nat.le_refl _,by omega,h.1,fun h=>absurd rfl h⟩
 refine⟨_,cap,rfl,m,by simp only[maxLen]at o;omega,h.1,fun _=>⟨g,0,rfl,(Array.getElem?_eq_some_iff.1 f).1,fun i hi=>?_⟩⟩;rw[cell_of_row w g _ j e (0,0) f,<- p,List.getElem?_take,if_pos hi];simp
theorem RdS.cut{ao:Option Addr}{cap l h:Nat}(r:RdS w sz (.slice ao n cap) n cs)(D:l<=h)(C:h<=n):RdS w sz (cutV ao l h cap sz) (h-l) ((cs.drop (l*sz)).take ((h-l)*sz)):=by
 obtain⟨o,m,e,z,B,s,y⟩:=r;injection e with p _ q;subst p q;refine⟨_,_,rfl,by omega,by omega,?_,fun F=>?_⟩
 ·rw[List.length_take,List.length_drop,s,<- Nat.sub_mul];exact Nat.min_eq_left (Nat.mul_le_mul_right _ (by omega))
 obtain⟨b,j,rfl,f,hc⟩:=y (by omega);rw[if_neg (by omega)];refine⟨b,j+l*sz,by show some (Addr.add _ _)=_;rw[zqn],f,fun i hi=>?_⟩;rw[List.getElem?_take,if_pos hi,List.getElem?_drop,Nat.add_assoc];have E:(h-l)*sz+l*sz<=n*sz:=by rw[<-Nat.add_mul];exact Nat.mul_le_mul_right _ (by omega)
 exact hc _ (by omega)
theorem own_at{b:Nat}{e:TypeId}{g cap:Nat}{n:Nat}(h:w.ownsRow b e sz (.slice (some ⟨g,0,.none⟩) n cap) n cs):b<=g/\g<w.heap.size:=by
 rcases h.2 with⟨i,_⟩|⟨o,j,l,f,i,m,_⟩
 ·cases i
 injection f with f;injection f with f;injection f with f;subst f;exact⟨i,(Array.getElem?_eq_some_iff.1 m).1⟩
end

section

variable {P:Program} {w:World} (t:TypeId) (a:Option Addr) (len cap:Nat) (ht:P.underlying t=some (.slice (P.elem t)))

include ht

theorem zm6(kl:IntKind)(l:Int)(b:0<=l)(f:l<=len):
  (Instr.slice t (.slice a len cap) (some (.int kl l)) none none).run P w=((sizeOf (P.elem t)).run P w).andThen fun s w=>.ok (cutV a l.toNat len cap s) w:=run_slice_l w t a len cap ht kl l b f
theorem zml(b:IntKind)(h:Int)(f:0<=h)(i:h<=cap):
  (Instr.slice t (.slice a len cap) none (some (.int b h)) none).run P w=((sizeOf (P.elem t)).run P w).andThen fun s w=>.ok (cutV a 0 h.toNat cap s) w:=run_slice_h w t a len cap ht b h f i
theorem zky(kl b:IntKind)(l h:Int)(f:0<=l)(i:l<=h)(j:h<=cap):
  (Instr.slice t (.slice a len cap) (some (.int kl l)) (some (.int b h)) none).run P w=((sizeOf (P.elem t)).run P w).andThen fun s w=>.ok (cutV a l.toNat h.toNat cap s) w:=run_slice_lh w t a len cap ht kl b l h f i j
theorem z9r:(Instr.slice t (.slice a len cap) none none none).run P w=((sizeOf (P.elem t)).run P w).andThen fun s w=>.ok (cutV a 0 len cap s) w:=run_slice_all w t a len cap ht
end

section

variable {P:Program} (w:World)

theorem zn4(b:Nat)(t m e:TypeId)(i:TypeInfo)(size:Nat)(ht:P.underlying t=some (.slice e))(hi:P.info? e=some i)
  (v:Value) (n:Nat) (xs:List Value) (f:w.ownsRow b e size v n xs) (ao:Option Addr) (c:Nat):(Builtin.append_ #[t,t] m #[v,.slice ao 0 c]).run P w= .ok v w:=by
 rcases f.2 with⟨rfl,rfl⟩|⟨g,cap,l,rfl,_,_,j,_⟩
 ·cases ao<;>simp[Builtin.append_,run_underlying ht,sizeOf,typeInfo,hi,Builtin.lenOf,Builtin.firstCells,loadCells,loadCellsFrom]
 cases ao<;>simp[Builtin.append_,run_underlying ht,sizeOf,typeInfo,hi,Builtin.lenOf,Builtin.firstCells,j,storeCells,loadCells,loadCellsFrom]
theorem zqt(f:Nat)(t I e:TypeId)(i:TypeInfo)(z:Value)(size o:Nat)(ht:P.underlying t=some (.slice e))(hi:P.info? e=some i)(X:i.zero=some z)
  (s:i.size=size) (D:i.bytes=o) (G:z.cells.size=size) (F:0<size)
  (v:Value) (n:Nat) (xs:List Value) (p:w.ownsRow f e size v n xs)
  (u:Value) (m:Nat) (l:List Value) (V:RdS w size u m l) (M:∀ u ∈ l,u.oneCell'=true)
  (C:n+m<=maxLen) (q:(n+m)*o<=140737488355328) (r:f<=w.heap.size):
  ∃ v' w',(Builtin.append_ #[t,t] I #[v,u]).run P w= .ok v' w'/\w'.ownsRow f e size v' (n+m) (xs++l)/\w.grownBy w' v.ownBlock/\
   (v'.ownBlock=v.ownBlock\/v'.ownBlock=some w.heap.size):=by
 obtain⟨ao,cap,rfl,S,T,L,y⟩:=V;rcases Nat.eq_zero_or_pos m with J|J
 ·subst J;have U:l= []:=List.eq_nil_of_length_eq_zero (by simpa using L);subst U;exact⟨v,w,zn4 w f t I e i size ht hi v n xs p ao cap,by simpa using p,World.grownBy.refl w _,.inl rfl⟩
 obtain⟨b,H,rfl,_,E⟩:=y (by omega)
 obtain⟨v',w',B,N,O,_,R⟩:=run_append_own_at (P:=P) w f t I e i z size o ht hi X s D G F v n xs p ⟨b,H,.none⟩ m cap l L
  (fun j u hu=>by rw[zqn];rw[<-hu];exact E j (by have:=(List.getElem?_eq_some_iff.1 hu).1;omega)) M C q r
 exact⟨v',w',B,N,O,R⟩
variable {w}

theorem zk5{o:Oper}{a:Act}{K:Act->World->Prop}{Q:Exit->Act->World->Prop}(s x:Operand)(t:TypeId)
  (J:o.op= .call { callee:= .builtin .append,args:= #[s,x],argTypes:= #[t,t]})
  (f:Nat) (e:TypeId) (i:TypeInfo) (z:Value) (size b:Nat) (ht:P.underlying t=some (.slice e)) (hi:P.info? e=some i) (N:i.zero=some z)
  (q:i.size=size) (C:i.bytes=b) (E:z.cells.size=size) (D:0<size)
  (v:Value) (n:Nat) (xs:List Value) (hs:a.eval s=v) (r:w.ownsRow f e size v n xs)
  (u:Value) (m:Nat) (j:List Value) (M:a.eval x=u) (L:RdS w size u m j) (F:∀ u ∈ j,u.oneCell'=true)
  (B:n+m<=maxLen) (l:(n+m)*b<=140737488355328) (p:f<=w.heap.size)
  (h:∀ v' w',w'.ownsRow f e size v' (n+m) (xs++j)->w.grownBy w' v.ownBlock->(v'.ownBlock=v.ownBlock\/v'.ownBlock=some w.heap.size)->K (a.put o.dst v') w'):o.wp P a w K Q:=by
 obtain⟨v',w',y,G,H,I⟩:=zqt (P:=P) w f t o.type e i z size b ht hi N q C E D v n xs r u m j L F B l p;unfold Oper.wp execOp;simp only[J,resolve,invoke,builtin,Sem.run_bind,Sem.run_pure,Result.andThen_ok,List.map_toArray,List.map_cons,List.map_nil,hs,M,y];exact h v' w' G H I
theorem zay{y:Array Oper}{rest:List Oper}{o:Oper}{a:Act}{Q:Exit->Act->World->Prop}(D:o.guard=none)(s x:Operand)(t:TypeId)
  (M:o.op= .call { callee:= .builtin .append,args:= #[s,x],argTypes:= #[t,t]})
  (f:Nat) (e:TypeId) (i:TypeInfo) (z:Value) (size b:Nat) (ht:P.underlying t=some (.slice e)) (hi:P.info? e=some i) (R:i.zero=some z)
  (q:i.size=size) (C:i.bytes=b) (F:z.cells.size=size) (E:0<size)
  (v:Value) (n:Nat) (xs:List Value) (hs:a.eval s=v) (r:w.ownsRow f e size v n xs)
  (u:Value) (m:Nat) (j:List Value) (O:a.eval x=u) (N:RdS w size u m j) (G:∀ u ∈ j,u.oneCell'=true)
  (B:n+m<=maxLen) (l:(n+m)*b<=140737488355328) (p:f<=w.heap.size)
  (h:∀ v' w',w'.ownsRow f e size v' (n+m) (xs++j)->w.grownBy w' v.ownBlock->(v'.ownBlock=v.ownBlock\/v'.ownBlock=some w.heap.size)->wpList P y Q rest (a.put o.dst v') w'):wpList P y Q (o::rest) a w:=
 wpList_plain D fun _ L=>zk5 s x t M f e i z size b ht hi R q C F E v n xs hs r u m j O N G B l p fun v' w' H I J=>L _ _ (h v' w' H I J)
theorem zbg{y:Array Oper}{o:Oper}{a:Act}{K:Act->World->Prop}{Q:Exit->Act->World->Prop}{E:Prop}(D:o.guard=none)(s x:Operand)(t:TypeId)
  (I:o.op= .call { callee:= .builtin .append,args:= #[s,x],argTypes:= #[t,t]})
  (f:Nat) (e:TypeId) (i:TypeInfo) (z:Value) (size b:Nat) (ht:P.underlying t=some (.slice e)) (hi:P.info? e=some i) (N:i.zero=some z)
  (q:i.size=size) (C:i.bytes=b) (G:z.cells.size=size) (F:0<size)
  (v:Value) (n:Nat) (xs:List Value) (hs:a.eval s=v) (r:w.ownsRow f e size v n xs)
  (u:Value) (m:Nat) (j:List Value) (M:a.eval x=u) (J:RdS w size u m j) (H:∀ u ∈ j,u.oneCell'=true)
  (B:n+m<=maxLen) (l:(n+m)*b<=140737488355328) (p:f<=w.heap.size)
  (h:∀ v' w',w'.ownsRow f e size v' (n+m) (xs++j)->w.grownBy w' v.ownBlock->(v'.ownBlock=v.ownBlock\/v'.ownBlock=some w.heap.size)->K (a.put o.dst v') w'):
  if Region.wanted o (yielded y a.tmps)=true then Oper.wp P o a w K Q else E:=by
 have L:Region.wanted o (yielded y a.tmps)=true:=by simp[Region.wanted,D]
 rw[if_pos L];exact zk5 s x t I f e i z size b ht hi N q C G F v n xs hs r u m j M J H B l p h
end

theorem RdS.new{w:World}{g:Nat}{cs:Array Value}{t:TypeId}{sz n:Nat}(b:w.heap[g]?=some (.cells cs t (0,0)))(f:cs.size=n*sz)(j:(n:Int)<=9223372036854775807):RdS w sz (.slice (some ⟨g,0,.none⟩) n n) n cs.toList:=by
 refine⟨_,n,rfl,Nat.le_refl _,j,by simpa using f,fun _=>⟨g,0,rfl,(Array.getElem?_eq_some_iff.1 b).1,fun i hi=>?_⟩⟩;rw[cell_of_row w g _ cs t (0,0) b];simp
theorem zaw{E:TypeId}{B sz:Nat}{a w w':World}{v:Value}{n:Nat}{xs:List Value}(h:Below B a w)(f:w.ownsRow B E sz v n xs)(i:B<=w.heap.size)(b:w.grownBy w' v.ownBlock):Below B a w':=
 h.trans ⟨b.os,b.tape,b.output,b.size,fun k j=>b.block k (by omega) (fun e=>by have:=(f.lt k e.symm).1;omega)⟩
end

section

open Go.RowKit

structure Only (F:Nat->Prop) (w w':World):Prop where
 os:w'.os=w.os
 tape:w'.tape=w.tape
 output:w'.output=w.output
 size:w.heap.size<=w'.heap.size
 block:∀ k,k < w.heap.size->¬ F k->w'.heap[k]?=w.heap[k]?
theorem Only.refl(F:Nat->Prop)(w:World):Only F w w:=⟨rfl,rfl,rfl,Nat.le_refl _,fun _ _ _=>rfl⟩
theorem Only.of_below{F:Nat->Prop}{w w':World}(h:Below w.heap.size w w'):Only F w w':=⟨h.os,h.tape,h.output,h.size,fun k b _=>h.block k b⟩
theorem Only.below{F:Nat->Prop}{w w':World}{B:Nat}(h:Only F w w')(i:B<=w.heap.size)(b:∀ k,F k->B<=k):Below B w w':=
 ⟨h.os,h.tape,h.output,h.size,fun k j=>h.block k (by omega) (fun f=>by have:=b k f;omega)⟩
theorem Only.trans{F G:Nat->Prop}{a b c:World}(h:Only F a b)(k:Only G b c)(j:∀ i,i<a.heap.size->G i->F i):Only F a c:=
 ⟨k.os.trans h.os,k.tape.trans h.tape,k.output.trans h.output,Nat.le_trans h.size k.size,fun i hi f=>(k.block i (by have:=h.size;omega) (fun l=>f (j i hi l))).trans (h.block i hi f)⟩
theorem Only.tb{F:Nat->Prop}{a b c:World}(h:Only F a b)(k:Below b.heap.size b c):Only F a c:=Only.trans h (Only.of_below (F:=fun _=>False) k) fun _ _ e=>e.elim
theorem Only.setCell{F:Nat->Prop}{a w:World}(h:Only F a w){p:Addr}(b:F p.block\/a.heap.size<=p.block)(u:Value):Only F a (w.setCell p u):=
 ⟨h.os,h.tape,h.output,by simpa[World.setCell] using h.size,fun k i f=>(Below.heap_setCell w p u k (fun e=>by rcases b with b|b;exact f (e ▸ b);omega)).trans (h.block k i f)⟩
theorem Only.alloc{F:Nat->Prop}{a w:World}(h:Only F a w)(o:Obj):Only F a (w.alloc o):=
 ⟨h.os,h.tape,h.output,by have:=h.size;simp;omega,fun k f b=>(Below.heap_alloc w o k (by have:=h.size;omega)).trans (h.block k f b)⟩
theorem Only.drew{F:Nat->Prop}{a w:World}(h:Only F a w):Only F a w.drew:=⟨h.os,h.tape,h.output,h.size,h.block⟩
theorem Only.drewN{F:Nat->Prop}{a w:World}(h:Only F a w)(n:Nat):Only F a (w.drewN n):=⟨h.os,h.tape,h.output,h.size,h.block⟩
theorem Only.grown{F:Nat->Prop}{a w w':World}{row:Option Nat}(h:Only F a w)(b:w.grownBy w' row)(l:∀ k,row=some k->F k\/a.heap.size<=k):Only F a w':=
 ⟨b.os.trans h.os,b.tape.trans h.tape,b.output.trans h.output,Nat.le_trans h.size b.size,fun k j i=>(b.block k (by have:=h.size;omega) (fun e=>by rcases l k e.symm with f|f;exact i f;omega)).trans (h.block k j i)⟩
theorem zas{w w':World}{B:Nat}{E:TypeId}{size:Nat}{v:Value}{n:Nat}{xs:List Value}(h:w.ownsRow B E size v n xs)(hb:∀ k,v.ownBlock=some k->w'.heap[k]?=w.heap[k]?):w'.ownsRow B E size v n xs:=by
 refine⟨h.1,?_⟩;rcases h.2 with j|⟨g,cap,b,rfl,f,i,r⟩
 ·exact .inl j
 exact .inr ⟨g,cap,b,rfl,f,by rw[hb g rfl];exact i,r⟩
def foot (s:Nat) (sl:Value):Nat->Prop:=fun k=> k=s\/sl.ownBlock=some k
theorem Only.mono'{F G:Nat->Prop}{a b:World}(h:Only F a b)(f:∀ k,F k->G k):Only G a b:=⟨h.os,h.tape,h.output,h.size,fun k i j=>h.block k i (fun e=>j (f k e))⟩
end

section

open Go.RowKit

attribute [local go_sem ↓] Go.wp_at_zero Go.wp_at_succ

def rowW (xs:List Int):Array Value:=(xs.map (Value.int .u64)).toArray
attribute [local go_sem] rowW

def zio (b:Nat) (m:Mem):Array Value:= #[.slice (some ⟨b,0,.none⟩) m.ws.length m.ws.length,m.st,m.la.c,m.la.k,m.la.a,.int .u64 m.la.was,.int .u64 m.la.put,m.la.ok]
attribute [local go_sem] zio

structure zaq (w:World) (p b:Nat) (m:Mem):Prop where
 ne:p≠b
 blk:w.heap[p]?=some (.cells (zio b m) 190 (0,0))
 row:w.heap[b]?=some (.cells (rowW m.ws) 137 (0,0))
 fit:m.fit
 few:m.ws.length<=2000
 stb:0<=m.st/\m.st<=1000000000
theorem Mem.ze4{m:Mem}(h:m.fit)(a:Int):0<=m.get a/\m.get a<18446744073709551616:=by
 unfold Mem.get;by_cases b:a.toNat<m.ws.length
 ·rw[List.getD_eq_getElem?_getD,List.getElem?_eq_getElem b];exact h _ (List.getElem_mem b)
 rw[List.getD_eq_getElem?_getD,List.getElem?_eq_none (by omega)];exact⟨by decide,by decide⟩
theorem zaq.cell{w:World}{p b:Nat}{m:Mem}(h:zaq w p b m){a:Int}(f:m.has a):w.cell? ⟨b,a.toNat,.none⟩=some (.int .u64 (m.get a)):=by
 have i:a.toNat<m.ws.length:=by have:=f.1;have:=f.2;omega
 refine(zac h.row a.toNat).trans ?_;simp[rowW,Mem.get,i]
theorem zvd(p b:Nat)(m:Mem)(a:Int)(w:World)(h:zaq w p b m)(j:m.has a):
  Calls Tryz.prog 140 #[some p,a] w fun e w'=>e= .returned (.bool true)/\w'=w:=by
 obtain⟨n,l,i⟩:=hidv m.ws.length;have o:w.cell? ⟨p,0,.none⟩=some (.slice (some ⟨b,0,.none⟩) n n):=by rw[i];exact zac h.blk 0
 have a0:(0:Int)<=a:=j.1;have a1:a<(n:Int):=by rw[i];exact j.2
 clear i h j;go_in;go_wp2_with fail;go_ret;exact⟨rfl,rfl⟩
theorem znu(p b:Nat)(m:Mem)(a:Int)(w:World)(h:zaq w p b m)(i:m.has a):
  Calls Tryz.prog 269 #[some p,a] w fun e w'=>e= .returned (.tuple #[])/\w'=w:=by
 have j:=hd' (zvd p b m a w h i);clear h i;go_in;go_wp2_with (go_at_call 140;refine j.out.mono ?_;rintro r l ⟨rfl,rfl⟩);refine bodyPost_end (results_none rfl _ _ _) rfl ⟨rfl,rfl⟩
def accV (a:Acc):Value:= .agg #[a.c,a.k,a.a,.int .u64 a.was,.int .u64 a.put,a.ok]
theorem znh(p b:Nat)(m:Mem)(a:Acc)(w:World)(h:zaq w p b m)(hs:m.st<1000000000):
  Calls Tryz.prog 270 #[some p,.agg #[a.c,a.k,a.a,.int .u64 a.was,.int .u64 a.put,a.ok]] w fun e w'=>e= .returned (.tuple #[])/\zaq w' p b ⟨m.ws,m.st+1,a⟩/\Only (fun k=>k=p) w w':=by
 have z:IntKind.i64.wrap (m.st+1)=m.st+1:=by rw[IntKind.wrap_i64];have:=h.stb;omega
 have lp:p<w.heap.size:=(Array.getElem?_eq_some_iff.1 h.blk).1;have lb:b<w.heap.size:=(Array.getElem?_eq_some_iff.1 h.row).1;go_in;go_upto_region 1 with fail;have hb:=(Below.refl w.heap.size w).alloc lr (.cells #[a.c,a.k,a.a,.int .u64 a.was,.int .u64 a.put,a.ok] 172);have o:=heap_alloc_new w (.cells #[a.c,a.k,a.a,.int .u64 a.was,.int .u64 a.put,a.ok] 172);generalize w.alloc (.cells #[a.c,a.k,a.a,.int .u64 a.was,.int .u64 a.put,a.ok] 172)=V at *;obtain⟨E,y,j⟩:=hidv w.heap.size;simp only[<-j]at o ⊢;have s:p≠E:=by omega
 clear j;have l:=(hb.block p lp).trans h.blk;have q:=zac l;have B:=zax l;have r:=zac o;go_wp2_with fail;refine bodyPost_end (results_none rfl _ _ _) rfl ⟨rfl,⟨h.ne,?_,?_,h.fit,h.few,?_⟩,?_⟩
 ·rw[heap_setCell_same _ p 7 _ _ _ (heap_setCell_same _ p 6 _ _ _ (heap_setCell_same _ p 5 _ _ _ (heap_setCell_same _ p 4 _ _ _ (heap_setCell_same _ p 3 _ _ _ (heap_setCell_same _ p 2 _ _ _ (heap_setCell_same _ p 1 _ _ _ l))))))];rfl
 ·have i:b≠p:=fun e=>h.ne e.symm;exact(Below.heap_setCell _ ⟨p,7,.none⟩ _ b i).trans ((Below.heap_setCell _ ⟨p,6,.none⟩ _ b i).trans ((Below.heap_setCell _ ⟨p,5,.none⟩ _ b i).trans ((Below.heap_setCell _ ⟨p,4,.none⟩ _ b i).trans ((Below.heap_setCell _ ⟨p,3,.none⟩ _ b i).trans ((Below.heap_setCell _ ⟨p,2,.none⟩ _ b i).trans ((Below.heap_setCell _ ⟨p,1,.none⟩ _ b i).trans ((hb.block b lb).trans h.row)))))))
 ·have:=h.stb;dsimp only;omega
 exact((((((((Only.of_below (F:=fun k=>k=p) hb).setCell (.inl rfl) _).setCell (.inl rfl) _).setCell (.inl rfl) _).setCell (.inl rfl) _).setCell (.inl rfl) _).setCell (.inl rfl) _).setCell (.inl rfl) _)
theorem zc1(p b:Nat)(m:Mem)(c a:Int)(w:World)(h:zaq w p b m)(l:m.has a)(hs:m.st<1000000000):
  Calls Tryz.prog 258 #[some p,c,a] w fun e w'=>e= .returned (.int .u64 (m.get a))/\zaq w' p b (m.load c a)/\Only (fun k=>k=p) w w':=by
 have s:=hd' (znu p b m a w h l);have y:=hd' (fun x:Acc=>znh p b m x w h hs);obtain⟨n,B,i⟩:=hidv m.ws.length;have D:w.cell? ⟨p,0,.none⟩=some (.slice (some ⟨b,0,.none⟩) n n):=by rw[i];exact zac h.blk 0
 have F:=h.cell l;have a0:(0:Int)<=a:=l.1;have a1:a<(n:Int):=by rw[i];exact l.2
 replace i:=hd' i;go_in;go_wp2_with (first|(go_at_call 269;refine s.out.mono ?_;rintro r C ⟨rfl,z⟩;obtain rfl:=z.symm)|(go_at_call 270;refine(y.out ⟨c,0,a,m.get a,0,true⟩).mono ?_;rintro r q ⟨rfl,j,o⟩;have E:q.cell? ⟨p,0,.none⟩=some (.slice (some ⟨b,0,.none⟩) n n):=(by rw[i.out];exact zac j.blk 0);have G:q.cell? ⟨b,a.toNat,.none⟩=some (.int .u64 (m.get a)):=j.cell (m:=⟨m.ws,m.st+1,⟨c,0,a,m.get a,0,true⟩⟩) l));go_ret;exact⟨rfl,j,o⟩
theorem zaq.put{w:World}{p b:Nat}{m:Mem}(h:zaq w p b m){a x:Int}(j:m.has a)(i:0<=x/\x<18446744073709551616):zaq (w.setCell ⟨b,a.toNat,.none⟩ (.int .u64 x)) p b ⟨m.ws.set a.toNat x,m.st,m.la⟩:=by
 refine⟨h.ne,?_,?_,?_,by simpa using h.few,h.stb⟩
 ·rw[Below.heap_setCell _ ⟨b,a.toNat,.none⟩ _ p h.ne,h.blk];simp[zio]
 ·rw[heap_setCell_same w b a.toNat _ _ _ h.row];simp only[rowW,List.map_set,List.setIfInBounds_toArray]
 intro y f;rcases List.mem_or_eq_of_mem_set f with f|rfl
 ·exact h.fit y f
 exact i
theorem zba(p b:Nat)(m:Mem)(c a x:Int)(w:World)(h:zaq w p b m)(l:m.has a)(B:0<=x/\x<18446744073709551616)(hs:m.st<1000000000):
  Calls Tryz.prog 257 #[some p,c,a,.int .u64 x] w fun e w'=>e= .returned (.tuple #[])/\zaq w' p b (m.store c a x)/\Only (fun k=>k=p\/k=b) w w':=by
 have s:=hd' (znu p b m a w h l);have y:=hd' (fun x:Acc=>znh p b m x w h hs);obtain⟨n,C,i⟩:=hidv m.ws.length;have E:w.cell? ⟨p,0,.none⟩=some (.slice (some ⟨b,0,.none⟩) n n):=by rw[i];exact zac h.blk 0
 have H:=h.cell l;have a0:(0:Int)<=a:=l.1;have a1:a<(n:Int):=by rw[i];exact l.2
 replace i:=hd' i;go_in;go_wp2_with (first|(go_at_call 269;refine s.out.mono ?_;rintro r D ⟨rfl,z⟩;obtain rfl:=z.symm)|(go_at_call 270;refine(y.out ⟨c,1,a,m.get a,x,true⟩).mono ?_;rintro r q ⟨rfl,j,o⟩;have G:q.cell? ⟨p,0,.none⟩=some (.slice (some ⟨b,0,.none⟩) n n):=(by rw[i.out];exact zac j.blk 0);have I:q.cell? ⟨b,a.toNat,.none⟩=some (.int .u64 (m.get a)):=j.cell (m:=⟨m.ws,m.st+1,⟨c,1,a,m.get a,x,true⟩⟩) l;have J:=zax j.row));refine bodyPost_end (results_none rfl _ _ _) rfl ⟨rfl,?_,?_⟩
 ·exact j.put (m:=⟨m.ws,m.st+1,⟨c,1,a,m.get a,x,true⟩⟩) l B
 exact(Only.trans (F:=fun k=>k=p\/k=b) (Only.refl _ _) o (fun _ _ h=>.inl h)).setCell (.inl (.inr rfl)) _
theorem zff(p b:Nat)(m:Mem)(c a was x:Int)(w:World)(h:zaq w p b m)(q:m.has a)(C:0<=x/\x<18446744073709551616)(hs:m.st<1000000000):
  Calls Tryz.prog 261 #[some p,c,a,.int .u64 was,.int .u64 x] w fun e w'=>e= .returned (.bool (decide (m.get a=was)))/\zaq w' p b (m.swap c a was x)/\Only (fun k=>k=p\/k=b) w w':=by
 have z:=hd' (znu p b m a w h q);have B:=hd' (fun x:Acc=>znh p b m x w h hs);obtain⟨n,E,l⟩:=hidv m.ws.length;have G:w.cell? ⟨p,0,.none⟩=some (.slice (some ⟨b,0,.none⟩) n n):=by rw[l];exact zac h.blk 0
 have I:=h.cell q;have a0:(0:Int)<=a:=q.1;have a1:a<(n:Int):=by rw[l];exact q.2
 replace l:=hd' l;by_cases i:m.get a=was
 ·rw[decide_eq_true i];have s:m.swap c a was x=⟨m.ws.set a.toNat x,m.st+1,⟨c,2,a,m.get a,x,true⟩⟩:=by unfold Mem.swap;rw[if_pos i,decide_eq_true i]
  rw[s];clear s;have hb:(m.get a==was)=true:=by simpa using i
  clear i;go_in;go_wp2_with (first|(go_at_call 269;refine z.out.mono ?_;rintro r D ⟨rfl,i⟩;obtain rfl:=i.symm)|(go_at_call 270;refine(B.out ⟨c,2,a,m.get a,x,true⟩).mono ?_;rintro r y ⟨rfl,j,o⟩;have H:y.cell? ⟨p,0,.none⟩=some (.slice (some ⟨b,0,.none⟩) n n):=(by rw[l.out];exact zac j.blk 0);have J:y.cell? ⟨b,a.toNat,.none⟩=some (.int .u64 (m.get a)):=j.cell (m:=⟨m.ws,m.st+1,⟨c,2,a,m.get a,x,true⟩⟩) q;have L:=zax j.row));go_returns;refine⟨rfl,?_,?_⟩
  ·exact j.put (m:=⟨m.ws,m.st+1,⟨c,2,a,m.get a,x,true⟩⟩) q C
  exact(Only.trans (F:=fun k=>k=p\/k=b) (Only.refl _ _) o (fun _ _ h=>.inl h)).setCell (.inl (.inr rfl)) _
 rw[decide_eq_false i];have s:m.swap c a was x=⟨m.ws,m.st+1,⟨c,2,a,m.get a,x,false⟩⟩:=by unfold Mem.swap;rw[if_neg i,decide_eq_false i]
 rw[s];clear s;have hb:(m.get a==was)=false:=by simpa using i
 clear i;go_in;go_wp2_with (first|(go_at_call 269;refine z.out.mono ?_;rintro r D ⟨rfl,i⟩;obtain rfl:=i.symm)|(go_at_call 270;refine(B.out ⟨c,2,a,m.get a,x,false⟩).mono ?_;rintro r y ⟨rfl,j,o⟩));go_returns;exact⟨rfl,j,Only.trans (F:=fun k=>k=p\/k=b) (Only.refl _ _) o (fun _ _ h=>.inl h)⟩
end

section

attribute [local go_sem] rowW zio
inductive Mc
 | tk (t:Tk)
 | sc (t:Sc)
 | pc (t:Pc)
 | sp (t:Sp)
 | bn (t:Bn)
 deriving DecidableEq
def Mc.done:Mc->Bool
 | .tk t=> t.done
 | .sc t=> t.done
 | .pc t=> t.done
 | .sp t=> t.done
 | .bn t=> t.done
def zbr (s:Sh):Mc->Mem->Mc × Mem
 | .tk t,m=> (.tk (zd2 s t m).1,(zd2 s t m).2)
 | .sc t,m=> (.sc (zed s t m).1,(zed s t m).2)
 | .pc t,m=> (.pc (ze7 s t m).1,(ze7 s t m).2)
 | .sp t,m=> (.sp (zdu s t m).1,(zdu s t m).2)
 | .bn t,m=> (.bn (ze6 s t m).1,(ze6 s t m).2)
structure Sk where
 c:Int
 k:Int
 first:Int
 now:Option Mc
 many:Int
 page:Int
 slot:Int
 found:Bool
 done:Bool
 deriving DecidableEq
def Sk.here (s:Sh) (t:Sk):Int:=(t.first + t.many) % s.p
def Sk.fin (t:Sk) (pg sl:Int):Sk:= { t with page:=pg,slot:=sl,found:=true,done:=true }
def Sk.turn (s:Sh) (t:Sk):Sk:= { t with now:=none,many:=t.many + 1,done:=decide (t.many + 1=s.p) }
def Sk.bind (s:Sh) (t:Sk) (p:Int):Sk:= { t with page:=p,now:=some (.bn (zfi s t.c p t.k)) }
def Sk.after (s:Sh) (t:Sk):Mc->Sk
 | .tk x=> if x.found=true then t.fin x.ep x.es else { t with now:=some (.sc (ziq s t.c t.k t.first)) }
 | .sc x=> if x.found=true then t.fin (x.page s) x.i else { t with now:=some (.pc (zlu s t.c t.first)) }
 | .pc x=> if x.found=true then t.bind s (x.page s) else { t with now:=none }
 | .sp x=> if x.held=true then t.bind s (t.here s) else t.turn s
 | .bn _=> t.fin t.page 0
def za5 (s:Sh):Nat->Sk->Sk
 | 0,t=> t
 | n + 1,t=> match t.now with
  | some x=> if t.done=false/\x.done=true then za5 s n (t.after s x) else t
  | none=> t
def zhb (s:Sh) (c k first:Int):Sk:=
 if 0<=zae s.p s.c s.m c/\0 < zah k/\0<=zak s.p s.c s.m first then za5 s 5 ⟨c,k,first,some (.tk (zg3 s c k)),0,0,0,false,false⟩
 else ⟨c,k,first,none,0,0,0,false,true⟩
def zbv (s:Sh) (t:Sk) (m:Mem):Sk × Mem:=
 if t.done=true then (t,m)
 else match t.now with
  | some x=> (za5 s 5 { t with now:=some (zbr s x m).1 },(zbr s x m).2)
  | none=>
   let pg:=zak s.p s.c s.m (t.here s)
   (if zal s.p s.c s.m (t.here s) (m.get pg)=true/\zbx (m.get pg)=2 then { t with now:=some (.sp (zfa s t.c (t.here s) (za2 (m.get pg) 0))) } else t.turn s,m.load t.c pg)
structure Rn where
 c:Int
 pages:Int
 head:Int
 at':Int
 i:Int
 next:Int
 strip:Option Sp
 found:Bool
 done:Bool
 deriving DecidableEq
def zf8 (s:Sh) (c n:Int):Rn:=⟨c,n,0,0,0,0,none,false, !(decide (0<=zae s.p s.c s.m c) && decide (1<=n) && decide (n<=8) && decide (n<=s.p))⟩
def Rn.written (t:Rn):Rn:=if t.i + 1=t.head + t.pages then { t with i:=t.i + 1,found:=true,done:=true } else { t with i:=t.i + 1 }
def Rn.own (t:Rn):Rn:=if t.at' + 1=t.head + t.pages then ({ t with at':=t.at' + 1,next:=5,i:=t.head }:Rn).written else { t with at':=t.at' + 1,next:=0 }
def Rn.gone (s:Sh) (t:Rn):Rn:=if t.head < t.i then t else { t with at':=t.at' + 1,head:=t.at' + 1,next:=0,done:=decide (s.p - t.pages < t.at' + 1) }
def Rn.miss (s:Sh) (t:Rn):Rn:=({ t with next:=4,i:=t.at' }:Rn).gone s
def zcr (s:Sh) (t:Rn) (m:Mem):Rn × Mem:=
 if t.done=true then (t,m)
 else
  let pg:=zak s.p s.c s.m t.at'
  if t.next=0 then
   (if zal s.p s.c s.m t.at' (m.get pg)=true/\zbx (m.get pg)=0 then { t with next:=1 }
    else if zal s.p s.c s.m t.at' (m.get pg)=true/\zbx (m.get pg)=2 then { t with next:=2,strip:=some (zfa s t.c t.at' (za2 (m.get pg) 0)) }
    else t.miss s,m.load t.c pg)
  else if t.next=1 then (if m.get pg=0 then t.own else t.miss s,m.swap t.c pg 0 (zf4 t.c))
  else if t.next=2 then
   match t.strip with
   | some x=>
    let r:=zdu s x m
    let t':Rn:= { t with strip:=some r.1 }
    (if r.1.held=true then { t' with next:=3,i:=0 } else if r.1.done=true then t'.miss s else t',r.2)
   | none=> (t,m)
  else if t.next=3 then (if t.i + 1=16 then ({ t with i:=t.i + 1 }:Rn).own else { t with i:=t.i + 1 },m.store t.c (zbk s.p s.c s.m t.at' t.i) 0)
  else if t.next=4 then (({ t with i:=t.i - 1 }:Rn).gone s,m.store t.c (zak s.p s.c s.m (t.i - 1)) (zb8 0 0 0))
  else (t.written,m.store t.c (zak s.p s.c s.m t.i) (zb8 4 t.head 0))
structure Blk where
 large:Bool
 page:Int
 slot:Int
 k:Int
 pages:Int
 deriving DecidableEq
def Blk.zero:Blk:=⟨false,0,0,0,0⟩
def Blk.at' (b:Blk):Int:=if b.large=true then b.page * 64 else b.page * 64 + b.slot * zbj b.k
def Blk.len (b:Blk):Int:=if b.large=true then b.pages * 64 else zbj b.k
def Blk.fits (s:Sh) (c:Int) (b:Blk):Bool:=
 if zae s.p s.c s.m c < 0\/zak s.p s.c s.m b.page < 0 then false
 else if b.large=true then decide (1<=b.pages) && decide (b.pages<=8) && decide (b.pages<=s.p - b.page)
 else decide (0<=b.slot) && decide (b.slot < zah b.k)
structure Rs where
 k:Int
 pages:Int
 seeker:Option Sk
 runner:Option Rn
 deriving DecidableEq
def zdh (s:Sh) (c n first:Int):Rs:=
 if wi n 1 32=true then ⟨zcn n,0,some (zhb s c (zcn n) first),none⟩
 else if wi n 33 512=true then ⟨0,runV n,none,some (zf8 s c (runV n))⟩
 else ⟨0,0,none,none⟩
def Rs.done (t:Rs):Bool:=match t.seeker,t.runner with
 | some x,_=> x.done
 | none,some x=> x.done
 | none,none=> true
def zb0 (s:Sh) (t:Rs) (m:Mem):Rs × Mem:=match t.seeker,t.runner with
 | some x,_=> ({ t with seeker:=some (zbv s x m).1 },(zbv s x m).2)
 | none,some x=> ({ t with runner:=some (zcr s x m).1 },(zcr s x m).2)
 | none,none=> (t,m)
def Rs.got (t:Rs):Option Blk:=match t.seeker,t.runner with
 | some x,_=> if x.found=true then some ⟨false,x.page,x.slot,t.k,0⟩ else none
 | none,some x=> if x.found=true then some ⟨true,x.head,0,0,t.pages⟩ else none
 | none,none=> none
structure Cm where
 c:Int
 b:Blk
 done:Bool
 deriving DecidableEq
def zc4 (s:Sh) (c:Int) (b:Blk):Cm:=⟨c,b, !b.fits s c⟩
def zb3 (s:Sh) (t:Cm) (m:Mem):Cm × Mem:=
 if t.done=true then (t,m)
 else ({ t with done:=true },if t.b.large=true then m.store t.c (zak s.p s.c s.m t.b.page) (zb8 3 t.b.pages 0) else m.store t.c (zbk s.p s.c s.m t.b.page t.b.slot) (zfl t.b.k))
structure Un where
 c:Int
 b:Blk
 i:Int
 done:Bool
 deriving DecidableEq
def zf1 (s:Sh) (c:Int) (b:Blk):Un:=⟨c,b,0, !b.fits s c⟩
def zcf (s:Sh) (t:Un) (m:Mem):Un × Mem:=
 if t.done=true then (t,m)
 else if t.b.large=false then ({ t with done:=true },m.store t.c (zbk s.p s.c s.m t.b.page t.b.slot) (zc8 t.b.k))
 else if t.i=t.b.pages - 1 then ({ t with done:=true },m.store t.c (zak s.p s.c s.m t.b.page) 0)
 else ({ t with i:=t.i + 1 },m.store t.c (zak s.p s.c s.m (t.b.page + t.i + 1)) 0)
structure Fe where
 c:Int
 a:Int
 page:Int
 slot:Int
 word:Int
 pk:Int
 pa:Int
 pb:Int
 next:Int
 i:Int
 put:Option Pu
 gave:Bool
 done:Bool
 deriving DecidableEq
def spB (s:Sh) (a:Int):Bool:=mayB s.p s.c s.m && wi a 0 (s.p * 64 - 1)
def zc2 (s:Sh) (c a:Int):Fe:=⟨c,a,if spB s a=true then a / 64 else 0,0,0,0,0,0,0,0,none,false, !spB s a || decide (zae s.p s.c s.m c < 0)⟩
def Fe.look (s:Sh) (t:Fe) (m:Mem):Fe × Mem:=
 let pg:=zak s.p s.c s.m t.page
 let x:=m.get pg
 let b:=zal s.p s.c s.m t.page x
 let off:=t.a % 64
 let t':Fe:= { t with word:=x,pk:=if b=true then zbx x else 0,pa:=if b=true then za2 x 0 else 0,pb:=if b=true then za2 x 1 else 0,next:=1 }
 (if b=true/\zbx x=3/\off=0 then t'
  else if b=true/\zbx x=2/\off % zbj (za2 x 0)=0 then { t' with slot:=off / zbj (za2 x 0) }
  else { t' with done:=true },m.load t.c pg)
def Fe.kept (t:Fe):Fe:=match t.put with
 | some x=> if x.put=true then { t with done:=true } else if x.done=true then { t with next:=3 } else t
 | none=> t
def Fe.claim (s:Sh) (t:Fe) (m:Mem):Fe × Mem:=
 if t.pk=3 then
  let pg:=zak s.p s.c s.m t.page
  let g:=decide (m.get pg=t.word)
  ({ t with gave:=g,next:=4,done:= !g },m.swap t.c pg t.word (zf4 t.c))
 else
  let at':=zbk s.p s.c s.m t.page t.slot
  let g:=decide (m.get at'=zfl t.pa)
  let t':Fe:= { t with gave:=g,next:=3 }
  let t'':Fe:=if t.pb=t.c then ({ t' with put:=some (zg5 s t.c t.page t.slot t.pa),next:=2 }:Fe).kept else t'
  ({ t'' with done:= !g },m.swap t.c at' (zfl t.pa) (wayW t.c))
def zca (s:Sh) (t:Fe) (m:Mem):Fe × Mem:=
 if t.done=true then (t,m)
 else if t.next=0 then t.look s m
 else if t.next=1 then t.claim s m
 else if t.next=2 then match t.put with
  | some x=> (({ t with put:=some (zd3 s x m).1 }:Fe).kept,(zd3 s x m).2)
  | none=> (t,m)
 else if t.next=3 then ({ t with done:=true },m.store t.c (zbk s.p s.c s.m t.page t.slot) (zc8 t.pa))
 else if t.i=t.pa - 1 then ({ t with done:=true },m.store t.c (zak s.p s.c s.m t.page) 0)
 else ({ t with i:=t.i + 1 },m.store t.c (zak s.p s.c s.m (t.page + t.i + 1)) 0)
structure Rr where
 c:Int
 res:Option Rs
 free:Option Fe
 undo:Option Un
 com:Option Cm
 err:Int
 done:Bool
 deriving DecidableEq
def Rr.settle (s:Sh) (t:Rr):Rr:=match t.res,t.free with
 | some r,some f=>
  if (match t.undo with | some u=> u.done | none=> false)=true then { t with err:=1,done:=true }
  else if (match t.com with | some u=> u.done | none=> false)=true then { t with err:=0,done:=true }
  else if r.done=false then t
  else match r.got with
   | none=> { t with err:=3,done:=true }
   | some b=> if t.undo.isSome=true\/t.com.isSome=true\/f.done=false then t else if f.gave=true then { t with com:=some (zc4 s t.c b) } else { t with undo:=some (zf1 s t.c b) }
 | _,_=> t
def zhh (s:Sh) (c a n first:Int):Rr:=
 if spB s a=true/\lenB n=true/\0<=zae s.p s.c s.m c then Rr.settle s ⟨c,some (zdh s c n first),some (zc2 s c a),none,none,0,false⟩
 else ⟨c,none,none,none,none,1,true⟩
def zb9 (s:Sh) (t:Rr) (m:Mem):Rr × Mem:=
 if t.done=true then (t,m)
 else match t.res,t.free with
  | some r,some f=>
   if r.done=false then (Rr.settle s { t with res:=some (zb0 s r m).1 },(zb0 s r m).2)
   else if f.done=false then (Rr.settle s { t with free:=some (zca s f m).1 },(zca s f m).2)
   else match t.undo,t.com with
    | some u,_=> (Rr.settle s { t with undo:=some (zcf s u m).1 },(zcf s u m).2)
    | none,some u=> (Rr.settle s { t with com:=some (zb3 s u m).1 },(zb3 s u m).2)
    | none,none=> (t,m)
  | _,_=> (t,m)
structure Ad where
 c:Int
 d:Int
 next:Int
 was:Int
 who:Int
 at':Int
 i:Int
 pk:Int
 pa:Int
 pb:Int
 err:Int
 done:Bool
 deriving DecidableEq
def Ad.fin (t:Ad) (e:Int):Ad:= { t with err:=e,done:=true }
def zix (s:Sh) (c d:Int):Ad:=
 let t:Ad:=⟨c,d,0,0,0,0,0,0,0,0,0,false⟩
 if zae s.p s.c s.m c < 0\/zae s.p s.c s.m d < 0\/c=d then t.fin 1 else t
def zjc (x:Int):Bool:=za8 (zbx x) (za2 x 0)==x
def zdc (x:Int):Int:=if zjc x=true then zbx x else 0
def zda (x:Int):Int:=if zjc x=true then za2 x 0 else 0
def Ad.turn (s:Sh) (t:Ad) (again next:Int):Ad:=
 let t':Ad:=if t.at' + 1=s.p then { t with at':=0,i:=0,next:=next } else { t with at':=t.at' + 1,next:=again }
 if t'.next=9/\s.m=0 then { t' with next:=10 } else t'
def Ad.own (s:Sh) (t:Ad) (a x:Int):Bool:=zal s.p s.c s.m a x && zbx x==1 && za2 x 0==t.d
def Ad.slot (s:Sh) (t:Ad):Ad:=if t.i + 1=zah t.pa then ({ t with i:=0,next:=11 }:Ad).turn s 10 13 else { t with i:=t.i + 1,next:=11 }
def Ad.keep (s:Sh) (t:Ad) (a x:Int):Ad:= { t with pk:=if zal s.p s.c s.m a x=true then zbx x else 0,pa:=if zal s.p s.c s.m a x=true then za2 x 0 else 0,pb:=if zal s.p s.c s.m a x=true then za2 x 1 else 0 }
def za0 (s:Sh) (t:Ad) (m:Mem):Ad × Mem:=
 if t.done=true then (t,m)
 else
  let pg:=zak s.p s.c s.m t.at'
  let sd:=zae s.p s.c s.m t.d
  let sl:=zbk s.p s.c s.m t.at' t.i
  if t.next=0 then
   let x:=m.get sd
   let t':Ad:= { t with was:=x }
   (if zdc x=2 then { t' with next:=2 }
    else if zdc x≠3 then t'.fin 5
    else if zae s.p s.c s.m (zda x) < 0 then t'.fin 4
    else { t' with who:=zda x,next:=1 },m.load t.c sd)
  else if t.next=1 then
   let so:=zae s.p s.c s.m t.who
   (if zdc (m.get so)=1 then ({ t with next:=2 }:Ad).fin 4 else { t with next:=2 },m.load t.c so)
  else if t.next=2 then (if m.get sd=t.was then { t with next:=3 } else ({ t with next:=3 }:Ad).fin 4,m.swap t.c sd t.was (za8 3 t.c))
  else if t.next=3 then
   (if zal s.p s.c s.m t.at' (m.get pg)=true/\zbx (m.get pg)=4 then { t.keep s t.at' (m.get pg) with next:=4 } else (t.keep s t.at' (m.get pg)).turn s 3 6,m.load t.c pg)
  else if t.next=4 then
   let ph:=zak s.p s.c s.m t.pa
   (if t.own s t.pa (m.get ph)=true then { t with next:=5 } else t.turn s 3 6,m.load t.c ph)
  else if t.next=5 then (t.turn s 3 6,m.store t.c pg 0)
  else if t.next=6 then (if t.own s t.at' (m.get pg)=true then { t with next:=7,i:=0 } else t.turn s 6 9,m.load t.c pg)
  else if t.next=7 then (if t.i + 1=16 then { t with i:=t.i + 1,next:=8 } else { t with i:=t.i + 1 },m.store t.c sl 0)
  else if t.next=8 then (t.turn s 6 9,m.store t.c pg 0)
  else if t.next=9 then (if t.i + 1=s.m then { t with i:=0,next:=10 } else { t with i:=t.i + 1 },m.store t.c (ze9 s.p s.c s.m t.d t.i) 0)
  else if t.next=10 then
   (if zal s.p s.c s.m t.at' (m.get pg)=true/\zbx (m.get pg)=2 then { t.keep s t.at' (m.get pg) with next:=11,i:=0 } else (t.keep s t.at' (m.get pg)).turn s 10 13,m.load t.c pg)
  else if t.next=11 then (if m.get sl=wayW t.d then { t with next:=12 } else t.slot s,m.load t.c sl)
  else if t.next=12 then (t.slot s,m.store t.c sl (zc8 t.pa))
  else (t.fin 0,m.store t.c sd (za8 4 0))
end

end Go.Proofs.YtkbddndcegpllaaGreat
