/- Texts bound together: WdsW WldP InvO InvQ. -/
import Derived.Test.YtkbddndcegpllaaGreatBg35

set_option linter.all false
namespace Go.Proofs.YtkbddndcegpllaaGreat

section

open Go.RowKit

attribute [local go_sem ↓] Go.wp_at_zero Go.wp_at_succ

theorem z81:(Tryz.prog.info? 137).map (fun i=>(i.zero,i.size,i.bytes))=some (some (.int .u64 0),1,8):=by kernel_rfl
theorem zv8(n:Nat)(l:n<=100000):∀ u:World,(Instr.makeSlice 43 (.int .i64 (n:Int)) (.int .i64 (n:Int))).run Tryz.prog u= .ok (.slice (some ⟨u.heap.size,0,.none⟩) n n) (u.alloc (.cells (madeCells #[.int .u64 0] n) 137)):=fun u=>by
 obtain⟨j,hi,b,f,i⟩:=info_parts z81
 have h:=run_make (P:=Tryz.prog) u 43 137 j (.int .u64 0) Tryz.underlying43 hi b .i64 .i64 (n:Int) (n:Int) (by omega) (Int.le_refl _) (by rw[i];omega) (by omega)
 rw[Int.toNat_natCast]at h
 simpa[f,Value.cells] using h
def zgj (n:Nat):Mem:=⟨List.replicate n 0,0,⟨0,0,0,0,0,false⟩⟩
theorem zxf(n:Nat):madeCells #[.int .u64 0] n=rowW (List.replicate n 0):=by
 apply Array.toList_inj.1;rw[toList_madeCells_one];simp[rowW]
theorem zoj(n:Nat):(zgj n).fit:=fun x b=>by
 rw[List.eq_of_mem_replicate b];exact⟨by decide,by decide⟩
theorem z7s(n:Nat)(m:n<=2000)(w:World):
  Calls Tryz.prog 104 #[.int .i64 (n:Int)] w fun e w'=>∃ p b,e= .returned (.pointer (some ⟨p,0,.none⟩))/\zaq w' p b (zgj n)/\w.heap.size<=p/\w.heap.size<=b/\Below w.heap.size w w':=by
 have j:=zv8 n (by omega);have l:decide ((n:Int)<0)=false:=decide_eq_false (by omega);have i:decide ((2000:Int)<(n:Int))=false:=decide_eq_false (by omega);go_in;go_wp2_with fail;go_returns;refine⟨_,w.heap.size,rfl,⟨by simp,?_,?_,zoj n,by simp[zgj];omega,by simp[zgj]⟩,by simp,Nat.le_refl _,?_⟩
 ·have h:=heap_alloc_new (w.alloc (.cells (madeCells #[.int .u64 0] n) 137)) (.cells (zio w.heap.size (zgj n)) 190);simpa[zio,zgj] using h
 ·have h:=heap_alloc_new w (.cells (madeCells #[.int .u64 0] n) 137);rw[zxf]at h;have i:=zaa.alloc (T:=137) h (.cells (zio w.heap.size (zgj n)) 190);simpa[zio,zgj,zaa,zxf] using i
 exact(br.alloc lr _).alloc (by simp) _
theorem z5o(p b:Nat)(m:Mem)(a x:Int)(w:World)(h:zaq w p b m)(j:m.has a)(t:0<=x/\x<18446744073709551616):
  Calls Tryz.prog 116 #[.pointer (some ⟨p,0,.none⟩),.int .i64 a,.int .u64 x] w fun e w'=>e= .returned (.bool true)/\zaq w' p b ⟨m.ws.set a.toNat x,m.st,m.la⟩/\Only (fun k=>k=b) w w':=by
 have q:=hd' (zvd p b m a w h j);have l:=hd' (h.put j t);obtain⟨n,y,i⟩:=hidv m.ws.length;have B:w.cell? ⟨p,0,.none⟩=some (.slice (some ⟨b,0,.none⟩) n n):=by rw[i];exact zac h.blk 0
 have C:=h.cell j;have D:=zax h.row;have a0:(0:Int)<=a:=j.1;have a1:a<(n:Int):=by rw[i];exact j.2
 clear i h j;go_in;go_wp2_with (go_at_call 140;refine q.out.mono ?_;rintro r z ⟨rfl,o⟩;obtain rfl:=o.symm);go_returns;exact⟨rfl,l.out,Only.setCell (F:=fun k=>k=b) (Only.refl _ _) (.inl rfl) _⟩
theorem zoh(p b:Nat)(m:Mem)(w:World)(h:zaq w p b m):
  Calls Tryz.prog 109 #[.pointer (some ⟨p,0,.none⟩)] w fun e w'=>e= .returned (.int .i64 m.st)/\w'=w:=by
 have i:w.cell? ⟨p,1,.none⟩=some (.int .i64 m.st):=zac h.blk 1;clear h;go_in;go_wp2_with fail;go_returns;exact⟨rfl,rfl⟩
theorem z4k(p b:Nat)(m:Mem)(w:World)(h:zaq w p b m):
  Calls Tryz.prog 111 #[.pointer (some ⟨p,0,.none⟩)] w fun e w'=>e= .returned (accV m.la)/\Below w.heap.size w w':=by
 unfold accV;have B:=(Below.refl w.heap.size w).alloc lr (.cells #[.int .i64 0,.int .i64 0,.int .i64 0,.int .u64 0,.int .u64 0,.bool false] 172);have j:zaa (w.alloc (.cells #[.int .i64 0,.int .i64 0,.int .i64 0,.int .u64 0,.int .u64 0,.bool false] 172)) w.heap.size #[.int .i64 0,.int .i64 0,.int .i64 0,.int .u64 0,.int .u64 0,.bool false] 172:=heap_alloc_new _ _;have z:=h.below B;have G:w.heap.size≠p:=fun e=>by have:=h.ltp;omega
 obtain⟨la,C⟩:∃ la,la=m.la:=⟨_,rfl⟩;have H:(w.alloc (.cells #[.int .i64 0,.int .i64 0,.int .i64 0,.int .u64 0,.int .u64 0,.bool false] 172)).cell? ⟨p,2,.none⟩=some (.int .i64 m.la.c):=zac z.blk 2;have I:(w.alloc (.cells #[.int .i64 0,.int .i64 0,.int .i64 0,.int .u64 0,.int .u64 0,.bool false] 172)).cell? ⟨p,3,.none⟩=some (.int .i64 m.la.k):=zac z.blk 3;have J:(w.alloc (.cells #[.int .i64 0,.int .i64 0,.int .i64 0,.int .u64 0,.int .u64 0,.bool false] 172)).cell? ⟨p,4,.none⟩=some (.int .i64 m.la.a):=zac z.blk 4;have L:(w.alloc (.cells #[.int .i64 0,.int .i64 0,.int .i64 0,.int .u64 0,.int .u64 0,.bool false] 172)).cell? ⟨p,5,.none⟩=some (.int .u64 m.la.was):=zac z.blk 5;have M:(w.alloc (.cells #[.int .i64 0,.int .i64 0,.int .i64 0,.int .u64 0,.int .u64 0,.bool false] 172)).cell? ⟨p,6,.none⟩=some (.int .u64 m.la.put):=zac z.blk 6;have N:(w.alloc (.cells #[.int .i64 0,.int .i64 0,.int .i64 0,.int .u64 0,.int .u64 0,.bool false] 172)).cell? ⟨p,7,.none⟩=some (.bool m.la.ok):=zac z.blk 7;rw[<-C]at H I J L M N ⊢;clear h z C;obtain⟨o,q,lp,y,r,lo⟩:=la;dsimp only at H I J L M N ⊢;go_in;go_upto_region 1 with fail;generalize w.alloc (.cells #[.int .i64 0,.int .i64 0,.int .i64 0,.int .u64 0,.int .u64 0,.bool false] 172)=X at *;obtain⟨E,O,l⟩:=hidv w.heap.size;rw[<-l]at j G ⊢;have i:w.heap.size<=E:=by omega
 clear l;have lE:=j.lt;have fE:=zax j;obtain⟨Y,Z,e2⟩:=ci3 0 0 0 j.cell;have e3:=ce (.int .u64 0) (j.cell 3);have e4:=ce (.int .u64 0) (j.cell 4);have e5:=ce (.bool false) (j.cell 5);go_wp2_with fail;have D:zaa ((((((X.setCell ⟨E,0,.none⟩ (.int .i64 o)).setCell ⟨E,1,.none⟩ (.int .i64 q)).setCell ⟨E,2,.none⟩ (.int .i64 lp)).setCell ⟨E,3,.none⟩ (.int .u64 y)).setCell ⟨E,4,.none⟩ (.int .u64 r)).setCell ⟨E,5,.none⟩ (.bool lo)) E #[.int .i64 o,.int .i64 q,.int .i64 lp,.int .u64 y,.int .u64 r,.bool lo] 172:=((((((j.set 0 (.int .i64 o)).set 1 (.int .i64 q)).set 2 (.int .i64 lp)).set 3 (.int .u64 y)).set 4 (.int .u64 r)).set 5 (.bool lo));have F:Below w.heap.size w ((((((X.setCell ⟨E,0,.none⟩ (.int .i64 o)).setCell ⟨E,1,.none⟩ (.int .i64 q)).setCell ⟨E,2,.none⟩ (.int .i64 lp)).setCell ⟨E,3,.none⟩ (.int .u64 y)).setCell ⟨E,4,.none⟩ (.int .u64 r)).setCell ⟨E,5,.none⟩ (.bool lo)):=((((((B.setCell (p:=⟨E,0,.none⟩) i (.int .i64 o)).setCell (p:=⟨E,1,.none⟩) i (.int .i64 q)).setCell (p:=⟨E,2,.none⟩) i (.int .i64 lp)).setCell (p:=⟨E,3,.none⟩) i (.int .u64 y)).setCell (p:=⟨E,4,.none⟩) i (.int .u64 r)).setCell (p:=⟨E,5,.none⟩) i (.bool lo));generalize (((((X.setCell ⟨E,0,.none⟩ (.int .i64 o)).setCell ⟨E,1,.none⟩ (.int .i64 q)).setCell ⟨E,2,.none⟩ (.int .i64 lp)).setCell ⟨E,3,.none⟩ (.int .u64 y)).setCell ⟨E,4,.none⟩ (.int .u64 r)).setCell ⟨E,5,.none⟩ (.bool lo)=U at *;obtain⟨r0,r1,R⟩:=ci3 o q lp D.cell;have S:=ce (.int .u64 y) (D.cell 3);have T:=ce (.int .u64 r) (D.cell 4);have V:=ce (.bool lo) (D.cell 5);exact bodyPost_ret (v:= .agg #[.int .i64 o,.int .i64 q,.int .i64 lp,.int .u64 y,.int .u64 r,.bool lo]) (by simp[results,Tryz.results111,go_sem,r0,r1,R,S,T,V]) rfl ⟨rfl,F⟩
theorem z5x(xs:List Int)(v:Value)(w:World)(G:RdS w 1 v xs.length (xs.map (Value.int .u64)))(F:xs.length<=2000):
  Calls Tryz.prog 122 #[v] w fun e w'=>∃ v',e= .returned v'/\Below w.heap.size w w'/\w'.ownsRow w.heap.size 137 1 v' xs.length (xs.map (Value.int .u64)):=by
 obtain⟨ao,cap,rfl,E,H,L,p⟩:=id G;have o:∀ W:World,(binOp .eql 43 (.slice ao xs.length cap) (.slice none 0 0)).run Tryz.prog W= .ok (.bool ao.isNone) W:=fun W=>Lib.run_eql_slice_nil W _ _ ao _ _ _ _ Tryz.underlying43;rcases ao with _|ad
 ·have I:xs= []:=by
   rcases xs with _|⟨b,l⟩
   ·rfl
   obtain⟨_,_,h,_⟩:=p (by simp);cases h
  subst I;replace o:∀ W:World,(binOp .eql 43 (.slice none 0 cap) (.slice none 0 0)).run Tryz.prog W= .ok (.bool true) W:=o;show Calls Tryz.prog 122 #[.slice none 0 cap] w _;go_in;go_wp2;go_ret;exact⟨_,rfl,Below.refl _ _,⟨rfl,.inl ⟨rfl,rfl⟩⟩⟩
 obtain⟨J,r,z,B,C⟩:=info_parts z81;have m:(w.alloc (.cells #[] 137)).ownsRow w.heap.size 137 1 (.slice (some ⟨w.heap.size,0,.none⟩) 0 0) 0 []:=World.ownsRow_lit w #[] 0 lr (Nat.zero_le _) rfl;have y:RdS (w.alloc (.cells #[] 137)) 1 (.slice (some ad) xs.length cap) xs.length (xs.map (Value.int .u64)):=RdS.alloc G _;go_in;go_wp2_with (refine zay rfl (.tmp 5) (.tmp 6) 43 rfl w.heap.size 137 J _ 1 8 Tryz.underlying43 r z B C rfl (by omega) _ 0 [] rfl m _ xs.length (xs.map (Value.int .u64)) rfl y (by intro c hc;obtain⟨x,_,rfl⟩:=List.mem_map.1 hc;rfl) (by simp only[maxLen];omega) (by omega) (by simp) ?_;intro M N i j D;have q:=zaw ((Below.refl w.heap.size w).alloc lr _) m (by simp) j);go_ret;rw[Nat.zero_add,List.nil_append]at i;exact⟨_,rfl,q,i⟩
theorem zaq.rd{w:World}{p b:Nat}{m:Mem}(h:zaq w p b m):RdS w 1 (.slice (some ⟨b,0,.none⟩) m.ws.length m.ws.length) m.ws.length (m.ws.map (Value.int .u64)):=by
 have f:=RdS.new (sz:=1) (n:=m.ws.length) h.row (by simp[rowW]) (by have:=h.few;omega);simpa[rowW] using f
theorem z8c(p b:Nat)(m:Mem)(w:World)(h:zaq w p b m):
  Calls Tryz.prog 69 #[.pointer (some ⟨p,0,.none⟩)] w fun e w'=>∃ v',e= .returned v'/\Below w.heap.size w w'/\w'.ownsRow w.heap.size 137 1 v' m.ws.length (m.ws.map (Value.int .u64)):=by
 have q:w.cell? ⟨p,0,.none⟩=some (.slice (some ⟨b,0,.none⟩) m.ws.length m.ws.length):=zac h.blk 0;have hc:=hd' (z5x m.ws _ w h.rd h.few);go_in;go_wp2_with (go_at_call 122;refine hc.out.mono ?_;rintro e o ⟨l,rfl,i,j⟩);go_ret;exact⟨_,rfl,i,j⟩
end

section

structure Wd where
 m:Mem
 l:List (Option Kl)
 tr:List Ev
 lg:List Acc
def Ch.op (x:Ch):Op3:=⟨x.ok,x.oa,x.on⟩
def zcj (c:Int):Ev:=⟨0,c,0,0,0,0,0,0⟩
def zdw (c:Int):Ev:=⟨1,c,0,0,0,0,0,0⟩
def Mem.put (m:Mem) (a x:Int):Mem:=⟨m.ws.set a.toNat x,m.st,m.la⟩
def zde (s:Sh):Wd:=⟨zgj (zb6 s.p s.c s.m).toNat,List.replicate s.c.toNat none, [], []⟩
def Wd.kl (d:Wd) (c:Int):Option Kl:=if 0<=c then d.l.getD c.toNat none else none
def Wd.stat (d:Wd) (c:Int):Int:=zdc (d.m.get c)
def Wd.begin (s:Sh) (d:Wd) (x:Ch):Wd × Int:=
 if d.stat x.client=0 then (⟨d.m.put x.client (za8 1 0),d.l.set x.client.toNat (some (zht x.client (Fl.zdr x.bias s.p))),d.tr ++ [zcj x.client],d.lg⟩,0) else (d,5)
def Wd.step (s:Sh) (d:Wd) (c:Int) (k:Kl):Wd × Int:=
 (⟨(k.step s d.m).2.1,d.l.set c.toNat (some (k.step s d.m).1),d.tr ++ (k.step s d.m).2.2.1,if d.m.st < (k.step s d.m).2.1.st then d.lg ++ [(k.step s d.m).2.1.la] else d.lg⟩,(k.step s d.m).2.2.2)
def Wd.ask (s:Sh) (d:Wd) (x:Ch) (k:Kl):Wd × Int:=
 (⟨d.m,d.l.set x.client.toNat (some (k.invoke s x.op).1),d.tr ++ (k.invoke s x.op).2.1,d.lg⟩,(k.invoke s x.op).2.2)
def Wd.kill (d:Wd) (c:Int):Wd × Int:=(⟨d.m.put c (za8 2 0),d.l.set c.toNat none,d.tr ++ [zdw c],d.lg⟩,0)
def Ch.bad (s:Sh) (x:Ch):Prop:=x.kind < 1\/4 < x.kind\/x.client < 0\/s.c<=x.client
instance (s:Sh) (x:Ch):Decidable (x.bad s):=by unfold Ch.bad;infer_instance
def Wd.act (s:Sh) (d:Wd) (x:Ch):Wd × Int:=
 if x.bad s then (d,1)
 else if x.kind=1 then d.begin s x
 else match d.kl x.client with
  | none=> (d,2)
  | some k=> if x.kind=3 then d.step s x.client k else if x.kind=2 then d.ask s x k else d.kill x.client
structure wdOk (s:Sh) (d:Wd) (n:Nat):Prop where
 fi:Fits s d.m
 fit:d.m.fit
 len:d.l.length=s.c.toNat
 kl:∀ c k,d.kl c=some k->klOk s k/\k.c=c/\0<=c/\c < s.c
 st:0<=d.m.st/\d.m.st<=n
 tr:d.tr.length<=3 * n
 lg:d.lg.length=d.m.st
theorem Wd.zfs{d:Wd}{c:Int}{k:Kl}(h:d.kl c=some k):0<=c/\c.toNat<d.l.length:=by
 unfold Wd.kl at h;split at h
 ·rename_i b;by_cases hc:c.toNat<d.l.length
  ·exact⟨b,hc⟩
  rw[List.getD_eq_getElem?_getD,List.getElem?_eq_none (by omega)]at h;simp at h
 cases h
theorem zme{b:Type}(l:List (Option b))(i j:Nat)(v:Option b)(hi:i<l.length):(l.set i v).getD j none=if i=j then v else l.getD j none:=by
 rw[List.getD_eq_getElem?_getD,List.getD_eq_getElem?_getD,List.getElem?_set];by_cases h:i=j
 ·subst h;simp[hi]
 simp[h]
theorem Wd.zdk(d:Wd){x:Int}(f:0<=x)(hi:x.toNat<d.l.length)(v:Option Kl)(m:Mem)(tr:List Ev)(lg:List Acc)(c:Int):(⟨m,d.l.set x.toNat v,tr,lg⟩:Wd).kl c=if c=x then v else d.kl c:=by
 unfold Wd.kl;dsimp only;by_cases b:0<=c
 ·rw[if_pos b,if_pos b,zme _ _ _ _ hi];by_cases h:c=x
  ·rw[if_pos (by omega),if_pos h]
  rw[if_neg (by omega),if_neg h]
 rw[if_neg b,if_neg b,if_neg (by omega)]
theorem Mem.z19{m:Mem}(h:m.fit)(a x:Int)(b:0<=x/\x<18446744073709551616):(m.put a x).fit:=ztw h b
theorem Kl.z0d(k:Kl)(j:Jb):(k.tells j).length<=3:=by
 unfold Kl.tells;rw[List.length_append];have f:(if j.gave=true/\k.told=false then [zbw k.c k.op.a] else []).length<=1:=by split<;>simp
 have i:(if j.done=true then(match j.took with|some b=>[zb5 k.c b.at' b.len]|none=>[])++[zaf k.c k.op (zb1 j.took) j.err] else []).length<=2:=by
  split
  ·rw[List.length_append];have:(match j.took with|some b=>[zb5 k.c b.at' b.len]|none=>[]).length<=1:=by cases j.took<;>simp
   simp;omega
  simp
 exact Nat.add_le_add f i
theorem Kl.zw4(s:Sh)(k:Kl)(m:Mem):(k.step s m).2.2.1.length<=3:=by
 unfold Kl.step;split
 ·simp
 exact Kl.z0d _ _
theorem Kl.zo3(s:Sh)(k:Kl)(o:Op3):(k.invoke s o).2.1.length<=2:=by
 unfold Kl.invoke;split
 ·simp
 split
 ·simp
 split<;>simp
theorem zl9{s:Sh}(h:mayB s.p s.c s.m=true):wdOk s (zde s) 0:=by
 have f:0<=zb6 s.p s.c s.m:=(z6x _ _ _).1;refine⟨⟨h,?_⟩,zoj _,by simp[zde],fun c k b=>?_,⟨Int.le_refl _,Int.le_refl _⟩,by simp[zde],rfl⟩
 ·show (((List.replicate _ (0:Int)).length:Nat):Int)=_;rw[List.length_replicate];omega
 unfold Wd.kl zde at b;dsimp only at b;rw[List.getD_eq_getElem?_getD,List.getElem?_replicate]at b;split at b
 ·split at b<;>simp at b
 cases b
theorem zkh{s:Sh}{k:Kl}{m:Mem}(h:klOk s k)(i:Fits s m)(b:m.fit):(k.job=none/\k.step s m=(k,m, [],2))\/(∃ j,k.job=some j/\Acts k.c m (k.step s m).2.1/\klOk s (k.step s m).1/\(k.step s m).2.2.2=0):=by
 rcases hj:k.job with _|j
 ·exact .inl ⟨rfl,by unfold Kl.step;rw[hj]⟩
 have f:=zsh h hj i b;exact .inr ⟨j,rfl,f.1,f.2,by unfold Kl.step;rw[hj]⟩
theorem zeo{s:Sh}{d:Wd}{n:Nat}(h:wdOk s d n)(x:Ch):wdOk s (d.act s x).1 (n+1):=by
 have F:=h.fi.may;have hb:=h.fi.bd;have p:=h.st;have H:=h.tr;have q:=h.lg;have t:wdOk s d (n+1):=⟨h.fi,h.fit,h.len,h.kl,⟨p.1,by omega⟩,by omega,q⟩;unfold Wd.act;split
 ·exact t
 rename_i r;unfold Ch.bad at r;have hc:0<=x.client/\x.client<s.c:=by omega
 have hi:x.client.toNat<d.l.length:=by rw[h.len];omega
 have f:∀ (v:Option Kl),(∀ k,v=some k->klOk s k/\k.c=x.client)->∀ (m:Mem) tr lg c k,(⟨m,d.l.set x.client.toNat v,tr,lg⟩:Wd).kl c=some k->klOk s k/\k.c=c/\0<=c/\c<s.c:=fun v C m tr lg c k i=>by
  rw[d.zdk hc.1 hi]at i;split at i
  ·rename_i e;subst e;exact⟨(C k i).1,(C k i).2,hc⟩
  exact h.kl c k i
 split
 ·unfold Wd.begin;split
  ·refine⟨h.fi.zh1 (by simp[Mem.put]),Mem.z19 h.fit _ _ (zdz _ _),by simpa using h.len,?_,⟨p.1,by show d.m.st<=_;omega⟩,by simp;omega,q⟩;exact f _ (fun k i=>by injection i with i;subst i;exact⟨z6w hc (Fl.z2u _ (by omega)),rfl⟩) _ _ _
  exact t
 split
 ·exact t
 rename_i k i;have o:=h.kl _ _ i;split
 ·have E:=Kl.zw4 s k d.m;have z:=(z6l s k d.m).1;unfold Wd.step;rcases zkh o.1 h.fi h.fit with⟨D,e⟩|⟨j,D,y,B,I⟩
  ·rw[e];dsimp only;rw[if_neg (by omega)];exact⟨h.fi,h.fit,by simpa using h.len,f _ (fun k' b=>by injection b with b;subst b;exact⟨o.1,o.2.1⟩) _ _ _,⟨p.1,by show d.m.st<=_;omega⟩,by simp;omega,q⟩
  have G:=y.st;rw[if_pos (by omega)];refine⟨y.fits h.fi,y.fit h.fit,by simpa using h.len,f _ (fun k' b=>by injection b with b;subst b;exact⟨B,z.trans o.2.1⟩) _ _ _,⟨by dsimp only;omega,by dsimp only;omega⟩,by simp;omega,by simp;omega⟩
 split
 ·have E:=Kl.zo3 s k x.op;unfold Wd.ask;exact⟨h.fi,h.fit,by simpa using h.len,f _ (fun k' b=>by injection b with b;subst b;exact⟨zwi x.op F o.1,(yaa s k x.op).1.trans o.2.1⟩) _ _ _,⟨p.1,by dsimp only;omega⟩,by simp;omega,q⟩
 unfold Wd.kill;exact⟨h.fi.zh1 (by simp[Mem.put]),Mem.z19 h.fit _ _ (zdz _ _),by simpa using h.len,f _ (fun k i=>by cases i) _ _ _,⟨p.1,by show d.m.st<=_;omega⟩,by simp;omega,q⟩
def KlAt (s:Sh) (c:Int) (σ:Ab) (k:Kl):Prop:=match k.job with
 | none=> zaz σ c .no
 | some j=> JbAt s c σ j
structure WI (s:Sh) (σ:Ab) (d:Wd):Prop where
 rep:Rep s d.m σ
 gi:GI s σ
 li:∀ c k,d.kl c=some k->σ.st c= .live/\KlAt s c σ k
 nl:∀ c,σ.st c= .live->∃ k,d.kl c=some k
 un:∀ c,σ.st c= .unused\/σ.st c= .done->zaz σ c .no/\∀ i,σ.mg c i= .none
 ow:∀ x a,σ.st x= .owned a->σ.st a≠ .unused/\(σ.st a= .live->∃ k t,d.kl a=some k/\k.job=some (.hei t)/\t.d=x/\t.done=false/\3<=t.next)
structure Chg (j j':Jb) (σ σ':Ab):Prop where
 gave:j.gave=false->j'.gave=true->(∃ f,j.fe=some f/\zr4 (feBl f) σ σ'/\f.next=1/\f.done=false)/\j'.done=false
 took:∀ b,j'.took=some b->Plus (zoa b) σ σ'
 calm:(j.gave=true\/j'.gave=false)->j'.took=none->Calm σ σ'
 st:∀ x,σ'.st x= .unused↔σ.st x= .unused
theorem z3h{σ:Ab}{x c:Int}(h:σ.st c= .live)(b:σ.st x≠ .live):x≠c:=fun e=>b (e ▸ h)
theorem KlAt.same{s:Sh}{c:Int}{σ σ':Ab}{k:Kl}(f:klOk s k)(hc:k.c=c)(h:KlAt s c σ k)(hs:Same c σ σ')(i:Later σ σ')(b:∀ t,k.job=some (.hei t)->t.done=false->3<=t.next->σ'.st t.d= .owned c/\Same t.d σ σ'):KlAt s c σ' k:=by
 unfold KlAt at *;cases hj:k.job with
 |none=>rw[hj]at h;exact h.same hs;|some j=>rw[hj]at h;exact h.same (hc ▸ (f.jb j hj).1) hs i fun t e=>b t (by rw[hj,e])
theorem zup{s:Sh}{c:Int}{σ:Ab}{k:Kl}{t:Ad}(h:KlAt s c σ k)(b:k.job=some (.hei t)):zaz σ c .no/\znv s σ c t:=by
 unfold KlAt at h;rw[b]at h;exact h
theorem z6d{s:Sh}{σ σ':Ab}{d:Wd}{n:Nat}{c:Int}{k k':Kl}{j:Jb}{F:Mem}{tr:List Ev}{lg:List Acc}(h:WI s σ d)(hd:wdOk s d n)(B:d.kl c=some k)(M:k.job=some j)(L:∀ t,j≠ .hei t)
  (O:Rep s F σ') (b:Kept s c σ σ') (D:KlAt s c σ' k'):WI s σ' ⟨F,d.l.set c.toNat (some k'),tr,lg⟩:=by
 have z:=(h.li c k B).1;have r:=d.zdk (Wd.zfs B).1 (Wd.zfs B).2 (some k') F tr lg;have E:=Later.yc7 b.2.2;refine⟨O,b.1,fun x y f=>?_,fun x f=>?_,fun x f=>?_,fun x a f=>?_⟩
 ·rw[r]at f;split at f
  ·rename_i e;subst e;injection f with f;subst f;exact⟨(b.2.2 x).trans z,D⟩
  rename_i e;obtain⟨S,H⟩:=h.li x y f;refine⟨(b.2.2 x).trans S,H.same (hd.kl x y f).1 (hd.kl x y f).2.1 (b.2.1 x e) E fun t p q C=>?_⟩;have G:=((zup H p).2.n3 q C).1;exact⟨(b.2.2 _).trans G,b.2.1 _ (z3h z (by rw[G];simp))⟩
 ·rw[b.2.2]at f;rw[r];split
  ·exact⟨_,rfl⟩
  exact h.nl x f
 ·rw[b.2.2]at f;have o:x≠c:=z3h z (by rcases f with e|e<;>rw[e]<;>simp);obtain⟨V,X⟩:=h.un x f;exact⟨V.same (b.2.1 x o),fun i=>((b.2.1 x o).m i).trans (X i)⟩
 rw[b.2.2]at f;rw[b.2.2];obtain⟨T,U⟩:=h.ow x a f;refine⟨T,fun N=>?_⟩;obtain⟨R,t,p,q,C,I,J⟩:=U N;have o:a≠c:=fun e=>by subst e;rw[B]at p;injection p with p;subst p;rw[M]at q;injection q with q;exact L t q
 exact⟨R,t,by rw[r,if_neg o];exact p,q,C,I,J⟩
theorem zzn{s:Sh}{σ:Ab}{d:Int}(f:GI s σ)(t:zcg σ d s.p)(y:zgu σ d s.m)(z:zhg σ d s.p):zaz σ d .no/\∀ i,σ.mg d i= .none:=by
 have o:=zpb f t;have q:=zsc f y;refine⟨⟨fun p=>⟨fun e=>absurd e (o p),fun e=>e.elim⟩,fun p g=>⟨fun e=>absurd e.2 (o g),fun e=>e.elim⟩,fun p i k=>⟨fun e=>?_,fun e=>?_⟩,fun p i k j e=>e.elim⟩,q⟩
 ·obtain⟨⟨b,l⟩,r⟩:=e;have:=zjs f l;exact absurd ⟨⟨b,l⟩,r⟩ (z p i k this.1.1 this.1.2)
 rcases e with e|⟨j,e⟩
 ·exact e.elim
 rw[q j]at e;cases e
theorem yby{s:Sh}{σ:Ab}{d:Wd}{n:Nat}{c:Int}{k:Kl}{t:Ad}{tr:List Ev}{lg:List Acc}(h:WI s σ d)(hd:wdOk s d n)(hk:d.kl c=some k)(hj:k.job=some (.hei t))(b8:adOk s t)(B:t.done=false)
  (k':Kl) (b0:k'.job=if (adA s t σ).1.done=true then none else some (.hei (adA s t σ).1)) (m':Mem) (hr:Rep s m' (adA s t σ).2):WI s (adA s t σ).2 ⟨m',d.l.set c.toNat (some k'),tr,lg⟩/\Calm σ (adA s t σ).2/\∀ x,(adA s t σ).2.st x= .unused↔σ.st x= .unused:=by
 obtain⟨M,bh⟩:=h.li c k hk;obtain⟨b3,F⟩:=zup bh hj;have z:=d.zdk (Wd.zfs hk).1 (Wd.zfs hk).2 (some k') m' tr lg;obtain⟨c1,c2,c3,c4,c5,c6,c7,c8,c9,bj⟩:=b8.cl B;have G:=F.ne B;have J:=F.cl;have b4:∀ x,t.next<=2->σ.st x≠ .owned c:=fun x hn e=>by obtain⟨k2,O,D,r,E,Z,e5⟩:=(h.ow x c e).2 M;rw[hk]at D;injection D with D;subst D;rw[hj]at r;injection r with r;injection r with r;subst r;omega
 have b1:∀ x,σ.st x= .owned c->t.d=x:=fun x e=>by obtain⟨k2,O,D,r,E,Z,e5⟩:=(h.ow x c e).2 M;rw[hk]at D;injection D with D;subst D;rw[hj]at r;injection r with r;injection r with r;subst r;exact E
 have mk:∀ σ',(∀ t',t'=(adA s t σ).1->t'.done=false->znv s σ' c t')->zaz σ' c .no->KlAt s c σ' k':=fun σ' h1 h2=>by
  unfold KlAt;rw[b0];rcases Bool.eq_false_or_eq_true (adA s t σ).1.done with e|e
  ·rw[if_pos e];exact h2
  rw[if_neg (by rw[e];decide)];exact⟨h2,h1 _ rfl e⟩
 have N:(adA s t σ).2=σ->t.next<=2->(∀ t',t'=(adA s t σ).1->t'.done=false->znv s σ c t')->WI s (adA s t σ).2 ⟨m',d.l.set c.toNat (some k'),tr,lg⟩/\Calm σ (adA s t σ).2/\∀ x,(adA s t σ).2.st x= .unused↔σ.st x= .unused:=fun e0 D r=>by
  rw[e0]at hr ⊢;refine⟨⟨hr,h.gi,fun x y f=>?_,fun x f=>?_,h.un,fun x a f=>?_⟩,Calm.refl _,fun _=>.rfl⟩
  ·rw[z]at f;split at f
   ·rename_i e;subst e;injection f with f;subst f;exact⟨M,mk σ r b3⟩
   exact h.li x y f
  ·rw[z];split
   ·exact⟨_,rfl⟩
   exact h.nl x f
  obtain⟨o1,o2⟩:=h.ow x a f;refine⟨o1,fun U=>?_⟩;obtain⟨k2,O,E,Z,e5,e6,e7⟩:=o2 U;have H:a≠c:=fun e=>by subst e;exact b4 x D f
  exact⟨k2,O,by rw[z,if_neg H];exact E,Z,e5,e6,e7⟩
 have bi:zjc 0=true:=by decide
 by_cases h0:t.next=0
 ·have X:=ya2 (s:=s) (σ:=σ) B h0;refine N (by rw[X]) (by omega) fun t' e Y=>?_;rw[X]at e;have hf:=h.gi.tf t.d;cases f:σ.st t.d with
  |dead=>rw[f]at e;subst e;exact⟨J,fun _ e=>(by cases e),fun _ _=>.inl rfl,fun _ e=>by exfalso;have e:(3:Int)<=2:=e;omega,fun _=>G,fun _=>F.a0 (by omega)⟩
  |owned a=>rw[f]at e hf;subst e;exact⟨J,fun _ _=>⟨rfl,hf,(h.ow _ _ f).1⟩,fun _ e=>(by cases e),fun _ e=>by exfalso;have e:(3:Int)<=1:=e;omega,fun _=>G,fun _=>F.a0 (by omega)⟩
  |unused=>rw[f]at e;subst e;cases Y
  |live=>rw[f]at e;subst e;cases Y
  |done=>rw[f]at e;subst e;cases Y
 by_cases h1:t.next=1
 ·have X:adA s t σ=(if σ.st t.who= .live then({t with next:=2}:Ad).fin 4 else {t with next:=2},σ):=by unfold adA;rw[if_neg (by rw[B];decide),if_neg h0,if_pos h1]
  refine N (by rw[X]) (by omega) fun t' e Y=>?_;rw[X]at e;obtain⟨w1,w2,w3⟩:=F.n1 B h1;by_cases f:σ.st t.who= .live
  ·have e:t'=({t with next:=2}:Ad).fin 4:=by rw[e];exact if_pos f
   subst e;cases Y
  have e:t'= {t with next:=2}:=by rw[e];exact if_neg f
  subst e;exact⟨J,fun _ e=>(by cases e),fun _ _=>.inr ⟨_,w1,w2,w3,f⟩,fun _ e=>by exfalso;have e:(3:Int)<=2:=e;omega,fun _=>G,fun _=>F.a0 (by omega)⟩
 by_cases h2:t.next=2
 ·by_cases hw:(σ.st t.d).enc=t.was
  ·have X:adA s t σ=({t with next:=3},σ.stat t.d (.owned t.c)):=by unfold adA;rw[if_neg (by rw[B];decide),if_neg h0,if_neg h1,if_pos h2,if_pos hw]
   have R:σ.st t.d= .dead\/∃ o,σ.st t.d= .owned o/\σ.st o≠ .live:=by
    rcases F.n2 B h2 with e|⟨o,D,r,E,Z⟩
    ·exact .inl (TW.inj c1 (h.gi.tf _) (y:= .dead) trivial (hw.trans e))
    exact .inr ⟨o,TW.inj c1 (h.gi.tf _) r (hw.trans D),Z⟩
   have bc:σ.st t.d≠ .live:=by rcases R with e|⟨o,e,_⟩<;>rw[e]<;>simp
   have bg:σ.st t.d≠ .unused:=by rcases R with e|⟨o,e,_⟩<;>rw[e]<;>simp
   have S:σ.st t.d≠ .done:=by rcases R with e|⟨o,e,_⟩<;>rw[e]<;>simp
   have bf:∀ x,σ.st x= .live->σ.st t.d≠ .owned x:=fun x f e=>by
    rcases R with r|⟨o,r,E⟩
    ·rw[r]at e;cases e
    rw[r]at e;injection e with e;subst e;exact E f
   rw[X]at hr b0 mk ⊢;rw[J]at hr ⊢;dsimp only at hr ⊢;have L:Later σ (σ.stat t.d (.owned c)):=by
    refine⟨fun x f=>?_,fun x f b7=>?_⟩
    ·by_cases e:x=t.d
     ·rw[e,zbf];simp
     rw[zao _ _ e];exact f
    by_cases e:x=t.d
    ·rw[e,zbf];simp
    rw[zao _ _ e];exact b7
   have j:(σ.stat t.d (.owned c)).st t.d= .owned c:=zbf _ _ _;have b6:∀ x,(σ.stat t.d (.owned c)).st x= .unused↔σ.st x= .unused:=fun x=>by
    by_cases e:x=t.d
    ·subst e;rw[j];exact⟨fun e=>(by cases e),fun e=>absurd e bg⟩
    rw[zao _ _ e]
   refine⟨⟨hr,h.gi.stat (J ▸ c2) c3,fun x y f=>?_,fun x f=>?_,fun x f=>?_,fun x a f=>?_⟩,ztg,b6⟩
   ·rw[z]at f;split at f
    ·rename_i e;subst e;injection f with f;subst f;refine⟨(zao _ _ G.symm).trans M,mk _ (fun t' e Y=>?_) (b3.same (Same.stat _ _))⟩;subst e;refine⟨J,fun _ e=>(by cases e),fun _ e=>(by cases e),fun _ _=>⟨j,?_⟩,fun _=>G,fun e=>by exfalso;have e:(3:Int)<=2:=e;omega⟩;rw[adD3 rfl];intro p g a b;have b:p<t.at':=b;rw[F.a0 (by omega)]at b;omega
    rename_i e;obtain⟨l1,l2⟩:=h.li x y f;have q:x≠t.d:=fun e=>bc (e ▸ l1);refine⟨(zao _ _ q).trans l1,l2.same (hd.kl x y f).1 (hd.kl x y f).2.1 (Same.stat _ _) L fun O D r E=>?_⟩;have I:=((zup l2 D).2.n3 r E).1;have:O.d≠t.d:=fun e=>by rw[e]at I;exact bf x l1 I
    exact⟨(zao _ _ this).trans I,Same.stat _ _⟩
   ·have q:x≠t.d:=fun e=>by rw[e,j]at f;cases f
    rw[zao _ _ q]at f;rw[z];split
    ·exact⟨_,rfl⟩
    exact h.nl x f
   ·have q:x≠t.d:=fun e=>by rw[e,j]at f;rcases f with e|e<;>cases e
    rw[zao _ _ q]at f;obtain⟨u1,u2⟩:=h.un x f;exact⟨u1.same (Same.stat _ _),u2⟩
   by_cases q:x=t.d
   ·subst q;rw[j]at f;injection f with f;subst f;refine⟨by rw[zao _ _ G.symm,M];simp,fun _=>⟨k', {t with next:=3},by rw[z,if_pos rfl],?_,rfl,B,by show (3:Int)<=3;omega⟩⟩;rw[b0];exact if_neg (by dsimp only;rw[B];decide)
   rw[zao _ _ q]at f;obtain⟨o1,o2⟩:=h.ow x a f;refine⟨L.un a o1,fun U=>?_⟩;have b5:a≠t.d:=fun e=>by rw[e,j]at U;cases U
   rw[zao _ _ b5]at U;obtain⟨k2,O,E,Z,e5,e6,e7⟩:=o2 U;have H:a≠c:=fun e=>by subst e;exact b4 x (by omega) f
   exact⟨k2,O,by rw[z,if_neg H];exact E,Z,e5,e6,e7⟩
  have X:adA s t σ=(({t with next:=3}:Ad).fin 4,σ):=by unfold adA;rw[if_neg (by rw[B];decide),if_neg h0,if_neg h1,if_pos h2,if_neg hw]
  refine N (by rw[X]) (by omega) fun t' e Y=>?_;rw[X]at e;subst e;cases Y
 obtain⟨V,S⟩:=F.n3 B (by omega);have ba:∀ x,σ.st x= .live->x≠t.d:=fun x f e=>by rw[e,V]at f;cases f
 by_cases bb:t.next=13
 ·have X:adA s t σ=(t.fin 0,σ.stat t.d .done):=by unfold adA;rw[if_neg (by rw[B];decide)];iterate 13 rw[if_neg (by omega)]
  rw[z9t bb]at S;obtain⟨x1,x2⟩:=zzn h.gi S.1 S.2.1 S.2.2;rw[X]at hr b0 mk ⊢;dsimp only at hr ⊢;have j:(σ.stat t.d .done).st t.d= .done:=zbf _ _ _;have L:Later σ (σ.stat t.d .done):=by
   refine⟨fun x f=>?_,fun x f b7=>?_⟩
   ·by_cases e:x=t.d
    ·rw[e,zbf];simp
    rw[zao _ _ e];exact f
   by_cases e:x=t.d
   ·rw[e,zbf];simp
   rw[zao _ _ e];exact b7
  have b6:∀ x,(σ.stat t.d .done).st x= .unused↔σ.st x= .unused:=fun x=>by
   by_cases e:x=t.d
   ·subst e;rw[j,V];exact⟨fun e=>(by cases e),fun e=>(by cases e)⟩
   rw[zao _ _ e]
  refine⟨⟨hr,h.gi.stat trivial c3,fun x y f=>?_,fun x f=>?_,fun x f=>?_,fun x a f=>?_⟩,ztg,b6⟩
  ·rw[z]at f;split at f
   ·rename_i e;subst e;injection f with f;subst f;exact⟨(zao _ _ G.symm).trans M,mk _ (fun t' e Y=>by subst e;cases Y) (b3.same (Same.stat _ _))⟩
   rename_i e;obtain⟨l1,l2⟩:=h.li x y f;refine⟨(zao _ _ (ba x l1)).trans l1,l2.same (hd.kl x y f).1 (hd.kl x y f).2.1 (Same.stat _ _) L fun O D r E=>?_⟩;have I:=((zup l2 D).2.n3 r E).1;have:O.d≠t.d:=fun r=>by rw[r,V]at I;injection I with I;exact e I.symm
   exact⟨(zao _ _ this).trans I,Same.stat _ _⟩
  ·have q:x≠t.d:=fun e=>by rw[e,j]at f;cases f
   rw[zao _ _ q]at f;rw[z];split
   ·exact⟨_,rfl⟩
   exact h.nl x f
  ·by_cases q:x=t.d
   ·subst q;exact⟨x1.same (Same.stat _ _),x2⟩
   rw[zao _ _ q]at f;obtain⟨u1,u2⟩:=h.un x f;exact⟨u1.same (Same.stat _ _),u2⟩
  have q:x≠t.d:=fun e=>by rw[e,j]at f;cases f
  rw[zao _ _ q]at f;obtain⟨o1,o2⟩:=h.ow x a f;refine⟨L.un a o1,fun U=>?_⟩;have b5:a≠t.d:=fun e=>by rw[e,j]at U;cases U
  rw[zao _ _ b5]at U;obtain⟨k2,O,E,Z,e5,e6,e7⟩:=o2 U;have H:a≠c:=fun e=>by subst e;exact q (b1 x f).symm
  exact⟨k2,O,by rw[z,if_neg H];exact E,Z,e5,e6,e7⟩
 have T:=yb6 h.gi b8 B (by omega) S;have j:=T.kept.2.2;have L:=Later.yc7 j;have b2:∀ x,x≠t.d->Same x σ (adA s t σ).2:=T.kept.2.1;refine⟨⟨hr,T.kept.1,fun x y f=>?_,fun x f=>?_,fun x f=>?_,fun x a f=>?_⟩,T.calm,fun x=>by rw[j]⟩
 ·rw[z]at f;split at f
  ·rename_i e;subst e;injection f with f;subst f;refine⟨(j _).trans M,mk _ (fun t' e Y=>?_) (b3.same (b2 _ G.symm))⟩;subst e;have C:=T.on;exact⟨C.c.trans J,fun _ e=>by have:=C.nx;omega,fun _ e=>by have:=C.nx;omega,fun _ _=>⟨by rw[j,C.d];exact V,C.dd⟩,fun _=>by rw[C.d];exact G,fun e=>by have:=C.nx;omega⟩
  rename_i e;obtain⟨l1,l2⟩:=h.li x y f;refine⟨(j x).trans l1,l2.same (hd.kl x y f).1 (hd.kl x y f).2.1 (b2 x (ba x l1)) L fun O D r E=>?_⟩;have I:=((zup l2 D).2.n3 r E).1;have:O.d≠t.d:=fun r=>by rw[r,V]at I;injection I with I;exact e I.symm
  exact⟨(j _).trans I,b2 _ this⟩
 ·rw[j]at f;rw[z];split
  ·exact⟨_,rfl⟩
  exact h.nl x f
 ·rw[j]at f;have q:x≠t.d:=fun e=>by rw[e,V]at f;rcases f with e|e<;>cases e
  obtain⟨u1,u2⟩:=h.un x f;exact⟨u1.same (b2 x q),fun i=>((b2 x q).m i).trans (u2 i)⟩
 rw[j]at f;rw[j];obtain⟨o1,o2⟩:=h.ow x a f;refine⟨o1,fun U=>?_⟩;obtain⟨k2,O,E,Z,e5,e6,e7⟩:=o2 U;by_cases H:a=c
 ·subst H;have C:=T.on;have b9:(adA s t σ).1.done=false:=C.dn.trans B;refine⟨k',(adA s t σ).1,by rw[z,if_pos rfl],by rw[b0,if_neg (by rw[b9];decide)],C.d.trans (b1 x f),b9,C.nx.1⟩
 exact⟨k2,O,by rw[z,if_neg H];exact E,Z,e5,e6,e7⟩
theorem zt5{s:Sh}{σ:Ab}{d:Wd}{n:Nat}{c:Int}{k:Kl}{j:Jb}(h:WI s σ d)(hd:wdOk s d n)(D:d.kl c=some k)(B:k.job=some j):WI s (j.zhf s c σ).2 (d.step s c k).1/\Chg j (j.step s c d.m).1 σ (j.zhf s c σ).2/\(j.step s c d.m).1=(j.zhf s c σ).1:=by
 obtain⟨O,z,o⟩:=hd.kl c k D;obtain⟨N,C⟩:=h.li c k D;obtain⟨l,p,M,L⟩:=O.jb j B;rw[z]at l;have f:=ye9 h.rep h.gi l o;have r:=zqw (m:=d.m) l o p h.rep.fi hd.fit;have G:k.step s d.m=(k.after (j.step s c d.m).1,(j.step s c d.m).2,k.tells (j.step s c d.m).1,0):=by unfold Kl.step;rw[B,z]
 unfold Wd.step;rw[G];dsimp only;have F:KlAt s c σ k=JbAt s c σ j:=by unfold KlAt;rw[B]
 rw[F]at C;by_cases E:∃ t,j= .hei t
 ·obtain⟨t,rfl⟩:=E;have q:(za0 s t d.m).1=(adA s t σ).1:=by have:=f.1;injection this
  have H:=yby (tr:=d.tr++k.tells (.hei (za0 s t d.m).1)) (lg:=if d.m.st<((Jb.hei t).step s c d.m).2.st then d.lg++[((Jb.hei t).step s c d.m).2.la] else d.lg) h hd D B l.1 p (k.after (.hei (za0 s t d.m).1)) (by
   show (if (Jb.hei (za0 s t d.m).1).done=true then none else some (Jb.hei (za0 s t d.m).1))=_
   rw[q];rfl) _ f.2
  exact⟨H.1,⟨fun _ e=>(by cases e),fun b e=>(by cases e),fun _ _=>H.2.1,H.2.2⟩,f.1⟩
 have i:=ya1 h.rep h.gi l o p C (fun a e=>E ⟨a,e⟩);refine⟨z6d h hd D B (fun a e=>E ⟨a,e⟩) f.2 i.kept ?_,?_,f.1⟩
 ·unfold KlAt;show (match (if (j.step s c d.m).1.done=true then none else some (j.step s c d.m).1:Option Jb) with|none=>_|some j=>_);have y:=i.at';rw[<-f.1]at y;rcases Bool.eq_false_or_eq_true (j.step s c d.m).1.done with e|e
  ·rw[if_pos e];exact yb5 r.2.1 e y
  rw[if_neg (by rw[e];decide)];exact y
 have y:=i.gave;have I:=i.took;have J:=i.calm;rw[<-f.1]at y I J;exact⟨y,I,J,fun x=>by rw[i.kept.2.2]⟩
variable {s:Sh} {σ:Ab} {d:Wd} {n:Nat} {c:Int} {k k':Kl}

theorem zw8(h:WI s σ d)(p:d.kl c=some k)(q:KlAt s c σ k')(j:k'.job=k.job\/k.job=none)(tr:List Ev)(lg:List Acc):WI s σ ⟨d.m,d.l.set c.toNat (some k'),tr,lg⟩:=by
 have f:=d.zdk (Wd.zfs p).1 (Wd.zfs p).2 (some k') d.m tr lg;refine⟨h.rep,h.gi,fun x y b=>?_,fun x b=>?_,h.un,fun x a b=>?_⟩
 ·rw[f]at b;split at b
  ·rename_i e;subst e;injection b with b;subst b;exact⟨(h.li x k p).1,q⟩
  exact h.li x y b
 ·rw[f];split
  ·exact⟨_,rfl⟩
  exact h.nl x b
 obtain⟨E,F⟩:=h.ow x a b;refine⟨E,fun C=>?_⟩;obtain⟨D,t,i,o,r,z,B⟩:=F C;rw[f];by_cases e:a=c
 ·subst e;rw[p]at i;injection i with i;subst i;rw[if_pos rfl];rcases j with j|j
  ·exact⟨k',t,rfl,j.trans o,r,z,B⟩
  rw[j]at o;cases o
 rw[if_neg e];exact⟨D,t,i,o,r,z,B⟩
theorem zwb(h:WI s σ d)(hd:wdOk s d n)(x:Ch)(m:d.kl x.client=some k):WI s σ (d.ask s x k).1:=by
 obtain⟨q,j,l⟩:=hd.kl _ k m;obtain⟨p,b⟩:=h.li _ k m;unfold Wd.ask;refine zw8 h m ?_ ?_ _ _
 ·unfold Kl.invoke;split
  ·exact b
  rename_i o;have f:k.job=none:=by
   cases f:k.job
   ·rfl
   simp[Kl.rests,f]at o
  have i:zaz σ x.client .no:=by unfold KlAt at b;rw[f]at b;exact b
  split
  ·exact b
  split
  ·show KlAt s x.client σ {k with op:=x.op,told:=false,steps:=0};unfold KlAt;dsimp only;rw[f];exact i
  unfold KlAt;dsimp only;rw[j];exact z5b h.rep.may l i _ _ _ _
 unfold Kl.invoke;split
 ·exact .inl rfl
 rename_i o;have f:k.job=none:=by
  cases f:k.job
  ·rfl
  simp[Kl.rests,f]at o
 exact .inr f
theorem zqr(h:WI s σ d)(hd:wdOk s d n)(x:Ch)(hc:0<=x.client/\x.client<s.c)(hu:d.stat x.client=0):WI s (σ.stat x.client .live) (d.begin s x).1:=by
 have J:=h.rep.may;have hb:=zar.1 J;have q:=(ixs h.rep.fi).2.2.2 _ hc;have f:σ.st x.client= .unused:=by have I:=h.rep.st _ hc;rw[q]at I;unfold Wd.stat at hu;rw[I]at hu;have E:=(TW.read J (h.gi.tf x.client)).1;rw[hu]at E;cases hx:σ.st x.client<;>rw[hx]at E<;>simp[TW.kind]at E
 have hi:x.client.toNat<d.l.length:=by rw[hd.len];omega
 unfold Wd.begin;rw[if_pos hu];dsimp only;have i:=d.zdk hc.1 hi (some (zht x.client (Fl.zdr x.bias s.p))) (d.m.put x.client (za8 1 0)) (d.tr++[zcj x.client]) d.lg;have j:(σ.stat x.client .live).st x.client= .live:=zbf _ _ _;have r:Rep s (d.m.put x.client (za8 1 0)) (σ.stat x.client .live):=h.rep.zpm hc .live (by rw[q];rfl);have G:Later σ (σ.stat x.client .live):=by
  refine⟨fun y b=>?_,fun y b H=>?_⟩
  ·by_cases e:y=x.client
   ·rw[e,zbf];simp
   rw[zao _ _ e];exact b
  have e:y≠x.client:=fun e=>b (e ▸ f);rw[zao _ _ e];exact H
 refine⟨r,h.gi.stat trivial hc,fun y z b=>?_,fun y b=>?_,fun y b=>?_,fun y a b=>?_⟩
 ·rw[i]at b;split at b
  ·rename_i e;subst e;injection b with b;subst b;exact⟨j,(h.un _ (.inl f)).1.same (Same.stat _ _)⟩
  rename_i e;obtain⟨T,L⟩:=h.li y z b;refine⟨(zao _ _ e).trans T,L.same (hd.kl y z b).1 (hd.kl y z b).2.1 (Same.stat _ _) G fun t B C D=>?_⟩;have F:=((zup L B).2.n3 C D).1;have:t.d≠x.client:=fun e=>by rw[e,f]at F;cases F
  exact⟨(zao _ _ this).trans F,Same.stat _ _⟩
 ·rw[i];split
  ·exact⟨_,rfl⟩
  rename_i e;rw[zao _ _ e]at b;exact h.nl y b
 ·have e:y≠x.client:=fun e=>by rw[e,j]at b;rcases b with e|e<;>cases e
  rw[zao _ _ e]at b;obtain⟨V,X⟩:=h.un y b;exact⟨V.same (Same.stat _ _),X⟩
 have e:y≠x.client:=fun e=>by rw[e,j]at b;cases b
 rw[zao _ _ e]at b;obtain⟨M,U⟩:=h.ow y a b;have o:a≠x.client:=fun e=>M (e ▸ f);rw[zao _ _ o];refine⟨M,fun R=>?_⟩;obtain⟨S,t,B,C,D,N,O⟩:=U R;exact⟨S,t,by rw[i,if_neg o];exact B,C,D,N,O⟩
theorem zp4(h:WI s σ d)(hd:wdOk s d n)(F:d.kl c=some k):WI s (σ.stat c .dead) (d.kill c).1:=by
 obtain⟨X,M,hc⟩:=hd.kl _ k F;obtain⟨G,N⟩:=h.li _ k F;have E:=(ixs h.rep.fi).2.2.2 _ hc;have hi:c.toNat<d.l.length:=(Wd.zfs F).2;unfold Wd.kill;dsimp only;have i:=d.zdk hc.1 hi none (d.m.put c (za8 2 0)) (d.tr++[zdw c]) d.lg;have f:(σ.stat c .dead).st c= .dead:=zbf _ _ _;have p:Rep s (d.m.put c (za8 2 0)) (σ.stat c .dead):=h.rep.zpm hc .dead (by rw[E];rfl);have o:Later σ (σ.stat c .dead):=by
  refine⟨fun y b=>?_,fun y b H=>?_⟩
  ·by_cases e:y=c
   ·rw[e,zbf];simp
   rw[zao _ _ e];exact b
  by_cases e:y=c
  ·rw[e,zbf];simp
  rw[zao _ _ e];exact H
 refine⟨p,h.gi.stat trivial hc,fun y z b=>?_,fun y b=>?_,fun y b=>?_,fun y a b=>?_⟩
 ·rw[i]at b;split at b
  ·cases b
  rename_i e;obtain⟨R,I⟩:=h.li y z b;refine⟨(zao _ _ e).trans R,I.same (hd.kl y z b).1 (hd.kl y z b).2.1 (Same.stat _ _) o fun t r B C=>?_⟩;have D:=((zup I r).2.n3 B C).1;have:t.d≠c:=fun e=>by rw[e,G]at D;cases D
  exact⟨(zao _ _ this).trans D,Same.stat _ _⟩
 ·have e:y≠c:=fun e=>by rw[e,f]at b;cases b
  rw[zao _ _ e]at b;rw[i,if_neg e];exact h.nl y b
 ·have e:y≠c:=fun e=>by rw[e,f]at b;rcases b with e|e<;>cases e
  rw[zao _ _ e]at b;obtain⟨U,V⟩:=h.un y b;exact⟨U.same (Same.stat _ _),V⟩
 have e:y≠c:=fun e=>by rw[e,f]at b;cases b
 rw[zao _ _ e]at b;obtain⟨S,T⟩:=h.ow y a b;refine⟨o.un a S,fun q=>?_⟩;have j:a≠c:=fun e=>by rw[e,f]at q;cases q
 rw[zao _ _ j]at q;obtain⟨O,t,r,B,C,J,L⟩:=T q;exact⟨O,t,by rw[i,if_neg j];exact r,B,C,J,L⟩
def z9x:Ab:=⟨fun _=> .empty,fun _ _=> .none,fun _ _=> .none,fun _=> .unused⟩
theorem zqj(N:Nat)(a:Int):(zgj N).get a=0:=by
 unfold Mem.get zgj;dsimp only;rw[List.getD_eq_getElem?_getD,List.getElem?_replicate];split<;>rfl
theorem ydc(h:mayB s.p s.c s.m=true):WI s z9x (zde s):=by
 have o:=zl9 h;have l:∀ c,zaz z9x c .no:=fun c=>by
  refine⟨fun p=>⟨fun e=>?_,fun e=>e.elim⟩,fun p g=>⟨fun e=>?_,fun e=>e.elim⟩,fun p i k=>⟨fun e=>?_,fun e=>?_⟩,fun p i k j e=>e.elim⟩
  ·cases e
  ·cases e.1
  ·obtain⟨⟨b,e⟩,_⟩:=e;cases e
  rcases e with e|⟨j,e⟩
  ·exact e.elim
  cases e
 refine⟨⟨o.fi,fun p q=>?_,fun p i q hi=>?_,fun c i hc hi=>?_,fun c hc=>?_⟩,?_,fun c k f=>?_,fun c e=>(by cases e),fun c _=>⟨l c,fun _=>rfl⟩,fun x a e=>(by cases e)⟩
 ·exact zqj _ _
 ·exact zqj _ _
 ·exact zqj _ _
 ·exact(zqj _ _).trans (show (0:Int)=za8 0 0 by decide)
 ·exact⟨fun _=>trivial,fun _ _=>trivial,fun _ _=>trivial,fun _=>trivial,fun c i e=>absurd rfl e,fun c e=>absurd rfl e,fun p i=>rfl,fun p h e=>(by cases e),fun p n e=>(by cases e),fun c j p i k e=>(by cases e),fun c j j' p i k k' e=>(by cases e)⟩
 unfold Wd.kl zde at f;dsimp only at f;rw[List.getD_eq_getElem?_getD,List.getElem?_replicate]at f;split at f
 ·split at f<;>simp at f
 cases f
end

end Go.Proofs.YtkbddndcegpllaaGreat
