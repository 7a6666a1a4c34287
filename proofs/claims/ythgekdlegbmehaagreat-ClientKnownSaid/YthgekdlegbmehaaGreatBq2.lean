/- Texts bound together: PlnP MchP Rw Only MchW. -/
import Derived.Deep.AppendLies

import Derived.Deep.RegionLaw

import Derived.Maps.AppendAt

import Derived.Deep.Draws

import Derived.Deep.DrawnRows

import Derived.Test.YthgekdlegbmehaaGreatBq1

set_option linter.all false
set_option maxHeartbeats 400000
namespace Go.Proofs.YthgekdlegbmehaaGreat

section

def zcn (n:Int):Int:=if wi n 1 32=true then (if n<=4 then 0 else if n<=8 then 1 else if n<=16 then 2 else 3) else 0
def runV (n:Int):Int:=if wi n 33 512=true then (n - 1) / 64 + 1 else 0
def lenB (n:Int):Bool:=wi n 1 512
def lenV (n:Int):Int:=if wi n 1 32=true then zbj (zcn n) else runV n * 64
theorem zwh (n:Int):0<=zcn n/\zcn n<=3:=by unfold zcn;split <;> (try split) <;> (try split) <;> (try split) <;> omega
theorem zxo {n k:Int} (hn:1<=n/\n<=32) (h0:0<=k) (h:k<=zcn n):zbj k < n↔k < zcn n:=by
 have h1:wi n 1 32=true:=zbc.2 hn
 unfold zcn at *
 rw [if_pos h1] at *
 unfold zbj
 split at h <;> (try split at h) <;> (try split at h) <;> (split <;> (try split) <;> (try split) <;> (try split) <;> (try split) <;> (try split) <;> (try split)) <;> omega
theorem yc6 (n:Int):0<=runV n/\runV n<=8:=by
 unfold runV;split
 ·rename_i h;have:=zbc.1 h;omega
 ·omega
theorem znt (k:Int):0<=zbj k/\zbj k<=32:=by unfold zbj;split <;> (try split) <;> (try split) <;> (try split) <;> omega
theorem zcy (k:Int):0<=zah k/\zah k<=16:=by unfold zah;split <;> (try split) <;> (try split) <;> (try split) <;> omega
theorem zzh {k:Int} (h:0<=k/\k<=3):zbj k * zah k=64:=by
 have:k=0\/k=1\/k=2\/k=3:=by omega
 rcases this with rfl | rfl | rfl | rfl <;> rfl
def zb6 (p c m:Int):Int:=if mayB p c m=true then c + p + p * 16 + c * m else 0
def zae (p c m x:Int):Int:=if mayB p c m=true/\wi x 0 (c - 1)=true then x else -1
def zbk (p c m a i:Int):Int:=if mayB p c m=true/\wi a 0 (p - 1)=true/\wi i 0 15=true then c + p + a * 16 + i else -1
def ze9 (p c m x i:Int):Int:=if mayB p c m=true/\wi x 0 (c - 1)=true/\wi i 0 (m - 1)=true then c + p + p * 16 + x * m + i else -1
theorem zk3 {c m C M:Int} (hc:0<=c/\c<=C) (hm:0<=m/\m<=M):0<=c * m/\c * m<=C * M:=
 ⟨Int.mul_nonneg hc.1 hm.1,Int.mul_le_mul hc.2 hm.2 hm.1 (by omega)⟩
theorem z6x (p c m:Int):0<=zb6 p c m/\zb6 p c m<=1196:=by
 unfold zb6;split
 ·rename_i h;have h:=zar.1 h
  have:=zk3 (c:=c) (m:=m) (C:=12) (M:=8) (by omega) (by omega)
  omega
 ·omega
structure Sh where
 p:Int
 c:Int
 m:Int
 deriving DecidableEq
structure Acc where
 c:Int
 k:Int
 a:Int
 was:Int
 put:Int
 ok:Bool
 deriving DecidableEq
structure Mem where
 ws:List Int
 st:Int
 la:Acc
def Mem.get (m:Mem) (a:Int):Int:=m.ws.getD a.toNat 0
def Mem.load (m:Mem) (c a:Int):Mem:=⟨m.ws,m.st + 1,⟨c,0,a,m.get a,0,true⟩⟩
def Mem.store (m:Mem) (c a x:Int):Mem:=⟨m.ws.set a.toNat x,m.st + 1,⟨c,1,a,m.get a,x,true⟩⟩
def Mem.swap (m:Mem) (c a was x:Int):Mem:=⟨if m.get a=was then m.ws.set a.toNat x else m.ws,m.st + 1,⟨c,2,a,m.get a,x,decide (m.get a=was)⟩⟩
def Mem.fit (m:Mem):Prop:=∀ x ∈ m.ws,0<=x/\x < 18446744073709551616
def Mem.has (m:Mem) (a:Int):Prop:=0<=a/\a < (m.ws.length:Int)
def zc8 (k:Int):Int:=zc3 1 k
def wayW (c:Int):Int:=zc3 2 c
def zfl (k:Int):Int:=zc3 3 k
def zf4 (c:Int):Int:=zb8 1 c 0
structure Tk where
 c:Int
 k:Int
 i:Int
 ep:Int
 es:Int
 ek:Int
 hit:Bool
 found:Bool
 done:Bool
 deriving DecidableEq
def zg3 (s:Sh) (c k:Int):Tk:=⟨c,k,0,0,0,0,false,false, !(decide (0<=zae s.p s.c s.m c) && decide (0 < zah k)) || s.m==0⟩
def zd2 (s:Sh) (t:Tk) (m:Mem):Tk × Mem:=
 if t.done=true then (t,m)
 else if t.hit=true then ({ t with found:=true,done:=true },m.store t.c (ze9 s.p s.c s.m t.c t.i) 0)
 else
  let x:=m.get (ze9 s.p s.c s.m t.c t.i)
  let m':=m.load t.c (ze9 s.p s.c s.m t.c t.i)
  if zbi s.p s.c s.m x=true/\za2 x 2=t.k then ({ t with ep:=za2 x 0,es:=za2 x 1,ek:=za2 x 2,hit:=true },m')
  else ({ t with i:=t.i + 1,done:=decide (t.i + 1=s.m) },m')
structure Pu where
 c:Int
 i:Int
 ep:Int
 es:Int
 ek:Int
 hit:Bool
 put:Bool
 done:Bool
 deriving DecidableEq
def zg5 (s:Sh) (c pg sl k:Int):Pu:=⟨c,0,pg,sl,k,false,false, !(decide (0<=zae s.p s.c s.m c) && decide (0 < zah k) && decide (0<=zak s.p s.c s.m pg) && decide (0<=sl) && decide (sl < zah k)) || s.m==0⟩
def zd3 (s:Sh) (t:Pu) (m:Mem):Pu × Mem:=
 if t.done=true then (t,m)
 else if t.hit=true then ({ t with put:=true,done:=true },m.store t.c (ze9 s.p s.c s.m t.c t.i) (putV 1 [t.ep,t.es,t.ek]))
 else
  let m':=m.load t.c (ze9 s.p s.c s.m t.c t.i)
  if m.get (ze9 s.p s.c s.m t.c t.i)=0 then ({ t with hit:=true },m')
  else ({ t with i:=t.i + 1,done:=decide (t.i + 1=s.m) },m')
structure Sc where
 c:Int
 k:Int
 first:Int
 many:Int
 i:Int
 next:Int
 found:Bool
 done:Bool
 deriving DecidableEq
def ziq (s:Sh) (c k first:Int):Sc:=⟨c,k,first,0,0,0,false, !(decide (0<=zae s.p s.c s.m c) && decide (0 < zah k) && decide (0<=zak s.p s.c s.m first))⟩
def Sc.page (s:Sh) (t:Sc):Int:=(t.first + t.many) % s.p
def Sc.turn (s:Sh) (t:Sc):Sc:= { t with many:=t.many + 1,i:=0,next:=0,done:=decide (t.many + 1=s.p) }
def Sc.miss (s:Sh) (t:Sc):Sc:=if t.i + 1=zah t.k then ({ t with i:=t.i + 1,next:=1 }:Sc).turn s else { t with i:=t.i + 1,next:=1 }
def zed (s:Sh) (t:Sc) (m:Mem):Sc × Mem:=
 if t.done=true then (t,m)
 else
  let at':=zbk s.p s.c s.m (t.page s) t.i
  let pg:=zak s.p s.c s.m (t.page s)
  if t.next=0 then
   let x:=m.get pg
   (if zal s.p s.c s.m (t.page s) x=true/\zbx x=2/\za2 x 0=t.k then { t with next:=1 } else t.turn s,m.load t.c pg)
  else if t.next=1 then (if m.get at'=zc8 t.k then { t with next:=2 } else t.miss s,m.load t.c at')
  else (if m.get at'=zc8 t.k then { t with found:=true,done:=true } else t.miss s,m.swap t.c at' (zc8 t.k) (wayW t.c))
structure Pc where
 c:Int
 first:Int
 many:Int
 empty:Bool
 found:Bool
 done:Bool
 deriving DecidableEq
def zlu (s:Sh) (c first:Int):Pc:=⟨c,first,0,false,false,decide (zae s.p s.c s.m c < 0) || decide (zak s.p s.c s.m first < 0)⟩
def Pc.page (s:Sh) (t:Pc):Int:=(t.first + t.many) % s.p
def ze7 (s:Sh) (t:Pc) (m:Mem):Pc × Mem:=
 if t.done=true then (t,m)
 else
  let at':=zak s.p s.c s.m (t.page s)
  if t.empty=false then
   (if m.get at'=0 then { t with empty:=true } else { t with empty:=false,many:=t.many + 1,done:=decide (t.many + 1=s.p) },m.load t.c at')
  else
   (if m.get at'=0 then { t with found:=true,done:=true } else { t with empty:=false,many:=t.many + 1,done:=decide (t.many + 1=s.p) },m.swap t.c at' 0 (zf4 t.c))
structure Sp where
 c:Int
 page:Int
 k:Int
 i:Int
 back:Bool
 held:Bool
 done:Bool
 deriving DecidableEq
def zfa (s:Sh) (c page k:Int):Sp:=⟨c,page,k,0,false,false, !(decide (0<=zae s.p s.c s.m c) && decide (0<=zak s.p s.c s.m page) && decide (0 < zah k))⟩
def zdu (s:Sh) (t:Sp) (m:Mem):Sp × Mem:=
 if t.done=true then (t,m)
 else if t.back=true then ({ t with i:=t.i - 1,done:=decide (t.i - 1=0) },m.store t.c (zbk s.p s.c s.m t.page (t.i - 1)) (zc8 t.k))
 else if t.i=zah t.k then ({ t with held:=true,done:=true },m.store t.c (zak s.p s.c s.m t.page) (zf4 t.c))
 else
  (if m.get (zbk s.p s.c s.m t.page t.i)=zc8 t.k then { t with i:=t.i + 1 } else { t with back:=true,done:=decide (t.i=0) },m.swap t.c (zbk s.p s.c s.m t.page t.i) (zc8 t.k) (wayW t.c))
structure Bn where
 c:Int
 page:Int
 k:Int
 i:Int
 bound:Bool
 done:Bool
 deriving DecidableEq
def zfi (s:Sh) (c page k:Int):Bn:=⟨c,page,k,0,false, !(decide (0<=zae s.p s.c s.m c) && decide (0<=zak s.p s.c s.m page) && decide (0 < zah k))⟩
def ze6 (s:Sh) (t:Bn) (m:Mem):Bn × Mem:=
 if t.done=true then (t,m)
 else if t.bound=true then ({ t with i:=t.i - 1,done:=decide (t.i - 1=0) },m.store t.c (zbk s.p s.c s.m t.page t.i) (zc8 t.k))
 else if t.i=16 then ({ t with bound:=true,i:=zah t.k - 1 },m.store t.c (zak s.p s.c s.m t.page) (zb8 2 t.k t.c))
 else ({ t with i:=t.i + 1 },m.store t.c (zbk s.p s.c s.m t.page t.i) (if t.i < zah t.k then wayW t.c else 0))
end

section

open Go.RowKit

theorem zqn (b o n:Nat):(⟨b,o,.none⟩:Addr).add n=⟨b,o + n,.none⟩:=by
 unfold Addr.add;split <;> simp_all
def RdS (w:World) (sz:Nat) (v:Value) (n:Nat) (cs:List Value):Prop:=∃ ao cap,v= .slice ao n cap/\n<=cap/\(cap:Int)<=9223372036854775807/\cs.length=n * sz/\
 (n≠0->∃ b off,ao=some ⟨b,off,.none⟩/\b < w.heap.size/\∀ i,i < n * sz->w.cell? ⟨b,off + i,.none⟩=cs[i]?)
def cutV (a:Option Addr) (l h m s:Nat):Value:=sliced a l h m s
section

variable {w w':World} {sz n:Nat} {v:Value} {cs:List Value}

theorem RdS.keep (h:RdS w sz v n cs) (hs:w.heap.size<=w'.heap.size) (hk:∀ b o,b < w.heap.size->w'.cell? ⟨b,o,.none⟩=w.cell? ⟨b,o,.none⟩):RdS w' sz v n cs:=
 let ⟨ao,cap,e,h1,h2,h3,h4⟩:=h
 ⟨ao,cap,e,h1,h2,h3,fun hn=> let ⟨b,off,ea,hlt,hc⟩:=h4 hn;⟨b,off,ea,Nat.lt_of_lt_of_le hlt hs,fun i hi=> (hk b _ hlt).trans (hc i hi)⟩⟩
theorem RdS.below (h:RdS w sz v n cs) (hb:Below w.heap.size w w'):RdS w' sz v n cs:=h.keep hb.size fun b o hlt=> hb.cell (p:=⟨b,o,.none⟩) hlt
theorem RdS.drew (h:RdS w sz v n cs):RdS w.drew sz v n cs:=h
theorem RdS.drewN (h:RdS w sz v n cs) (k:Nat):RdS (w.drewN k) sz v n cs:=h
theorem RdS.alloc (h:RdS w sz v n cs) (o:Obj):RdS (w.alloc o) sz v n cs:=h.below (br.alloc lr o)
theorem RdS.zew {base:Nat} {e:TypeId} (h:w.ownsRow base e sz v n cs):RdS w sz v n cs:=by
 rcases h.2 with ⟨h1,h2⟩ | ⟨g,cap,cur,rfl,h1,h2,h3,h4,h5,h6⟩
 ·subst h2
  exact ⟨none,0,h1,Nat.le_refl _,by omega,h.1,fun h=> absurd rfl h⟩
 ·refine ⟨_,cap,rfl,h3,by simp only [maxLen] at h4;omega,h.1,fun _=> ⟨g,0,rfl,(Array.getElem?_eq_some_iff.1 h2).1,fun i hi=> ?_⟩⟩
  rw [cell_of_row w g _ cur e (0,0) h2,<- h6,List.getElem?_take,if_pos hi]
  simp
theorem RdS.cut {ao:Option Addr} {cap l h:Nat} (r:RdS w sz (.slice ao n cap) n cs) (hl:l<=h) (hh:h<=n):RdS w sz (cutV ao l h cap sz) (h - l) ((cs.drop (l * sz)).take ((h - l) * sz)):=by
 obtain ⟨ao',cap',e,h1,h2,h3,h4⟩:=r
 injection e with e1 _ e3
 subst e1 e3
 refine ⟨_,_,rfl,by omega,by omega,?_,fun hn=> ?_⟩
 ·rw [List.length_take,List.length_drop,h3,<- Nat.sub_mul]
  exact Nat.min_eq_left (Nat.mul_le_mul_right _ (by omega))
 ·obtain ⟨b,off,rfl,hlt,hc⟩:=h4 (by omega)
  rw [if_neg (by omega)]
  refine ⟨b,off + l * sz,by show some (Addr.add _ _)=_;rw [zqn],hlt,fun i hi=> ?_⟩
  rw [List.getElem?_take,if_pos hi,List.getElem?_drop,Nat.add_assoc]
  have hm:(h - l) * sz + l * sz<=n * sz:=by rw [<- Nat.add_mul];exact Nat.mul_le_mul_right _ (by omega)
  exact hc _ (by omega)
theorem own_at {base:Nat} {e:TypeId} {g cap:Nat} {n:Nat} (h:w.ownsRow base e sz (.slice (some ⟨g,0,.none⟩) n cap) n cs):base<=g/\g < w.heap.size:=by
 rcases h.2 with ⟨h1,_⟩ | ⟨g',cap',cur,e1,h1,h2,_⟩
 ·cases h1
 ·injection e1 with e1
  injection e1 with e1
  injection e1 with e1
  subst e1
  exact ⟨h1,(Array.getElem?_eq_some_iff.1 h2).1⟩
end

section

variable {P:Program} {w:World} (t:TypeId) (a:Option Addr) (len cap:Nat) (ht:P.underlying t=some (.slice (P.elem t)))

include ht

theorem zm6 (kl:IntKind) (l:Int) (h0:0<=l) (h1:l<=len):
  (Instr.slice t (.slice a len cap) (some (.int kl l)) none none).run P w=((sizeOf (P.elem t)).run P w).andThen fun s w=> .ok (cutV a l.toNat len cap s) w:=run_slice_l w t a len cap ht kl l h0 h1
theorem zml (kh:IntKind) (h:Int) (h0:0<=h) (h2:h<=cap):
  (Instr.slice t (.slice a len cap) none (some (.int kh h)) none).run P w=((sizeOf (P.elem t)).run P w).andThen fun s w=> .ok (cutV a 0 h.toNat cap s) w:=run_slice_h w t a len cap ht kh h h0 h2
theorem zky (kl kh:IntKind) (l h:Int) (h0:0<=l) (h1:l<=h) (h2:h<=cap):
  (Instr.slice t (.slice a len cap) (some (.int kl l)) (some (.int kh h)) none).run P w=((sizeOf (P.elem t)).run P w).andThen fun s w=> .ok (cutV a l.toNat h.toNat cap s) w:=run_slice_lh w t a len cap ht kl kh l h h0 h1 h2
theorem z9r:(Instr.slice t (.slice a len cap) none none none).run P w=((sizeOf (P.elem t)).run P w).andThen fun s w=> .ok (cutV a 0 len cap s) w:=run_slice_all w t a len cap ht
end

section

variable {P:Program} (w:World)

theorem zn4 (base:Nat) (t ty e:TypeId) (i:TypeInfo) (size:Nat) (ht:P.underlying t=some (.slice e)) (hi:P.info? e=some i)
  (v:Value) (n:Nat) (xs:List Value) (hown:w.ownsRow base e size v n xs) (ao:Option Addr) (c:Nat):(Builtin.append_ #[t,t] ty #[v,.slice ao 0 c]).run P w= .ok v w:=by
 rcases hown.2 with ⟨rfl,rfl⟩ | ⟨g,cap,cur,rfl,_,_,hnc,_⟩
 ·cases ao <;> simp [Builtin.append_,run_underlying ht,sizeOf,typeInfo,hi,Builtin.lenOf,Builtin.firstCells,loadCells,loadCellsFrom]
 ·cases ao <;> simp [Builtin.append_,run_underlying ht,sizeOf,typeInfo,hi,Builtin.lenOf,Builtin.firstCells,hnc,storeCells,loadCells,loadCellsFrom]
theorem zqt (base:Nat) (t ty e:TypeId) (i:TypeInfo) (z:Value) (size bytes:Nat) (ht:P.underlying t=some (.slice e)) (hi:P.info? e=some i) (hz:i.zero=some z)
  (hsize:i.size=size) (hby:i.bytes=bytes) (hzs:z.cells.size=size) (hsz:0 < size)
  (v:Value) (n:Nat) (xs:List Value) (hown:w.ownsRow base e size v n xs)
  (u:Value) (m:Nat) (news:List Value) (hr:RdS w size u m news) (h1:∀ u ∈ news,u.oneCell'=true)
  (h63:n + m<=maxLen) (hbytes:(n + m) * bytes<=140737488355328) (hbase:base<=w.heap.size):
  ∃ v' w',(Builtin.append_ #[t,t] ty #[v,u]).run P w= .ok v' w'/\w'.ownsRow base e size v' (n + m) (xs ++ news)/\w.grownBy w' v.ownBlock/\
   (v'.ownBlock=v.ownBlock\/v'.ownBlock=some w.heap.size):=by
 obtain ⟨ao,cap,rfl,hc1,hc2,hl,hrow⟩:=hr
 rcases Nat.eq_zero_or_pos m with h0 | h0
 ·subst h0
  have hn:news= []:=List.eq_nil_of_length_eq_zero (by simpa using hl)
  subst hn
  exact ⟨v,w,zn4 w base t ty e i size ht hi v n xs hown ao cap,by simpa using hown,World.grownBy.refl w _,.inl rfl⟩
 ·obtain ⟨b,off,rfl,_,hcs⟩:=hrow (by omega)
  obtain ⟨v',w',hrun,h2,h3,_,h5⟩:=run_append_own_at (P:=P) w base t ty e i z size bytes ht hi hz hsize hby hzs hsz v n xs hown ⟨b,off,.none⟩ m cap news hl
   (fun j u hu=> by rw [zqn];rw [<- hu];exact hcs j (by have:=(List.getElem?_eq_some_iff.1 hu).1;omega)) h1 h63 hbytes hbase
  exact ⟨v',w',hrun,h2,h3,h5⟩
variable {w}

theorem zk5 {o:Oper} {a:Act} {K:Act->World->Prop} {Q:Exit->Act->World->Prop} (s x:Operand) (t:TypeId)
  (ho:o.op= .call { callee:= .builtin .append,args:= #[s,x],argTypes:= #[t,t] })
  (base:Nat) (e:TypeId) (i:TypeInfo) (z:Value) (size bytes:Nat) (ht:P.underlying t=some (.slice e)) (hi:P.info? e=some i) (hz:i.zero=some z)
  (hsize:i.size=size) (hby:i.bytes=bytes) (hzs:z.cells.size=size) (hsz:0 < size)
  (v:Value) (n:Nat) (xs:List Value) (hs:a.eval s=v) (hown:w.ownsRow base e size v n xs)
  (u:Value) (m:Nat) (news:List Value) (hx:a.eval x=u) (hr:RdS w size u m news) (h1:∀ u ∈ news,u.oneCell'=true)
  (h63:n + m<=maxLen) (hbytes:(n + m) * bytes<=140737488355328) (hbase:base<=w.heap.size)
  (h:∀ v' w',w'.ownsRow base e size v' (n + m) (xs ++ news)->w.grownBy w' v.ownBlock->(v'.ownBlock=v.ownBlock\/v'.ownBlock=some w.heap.size)->K (a.put o.dst v') w'):o.wp P a w K Q:=by
 obtain ⟨v',w',hrun,h2,h3,h4⟩:=zqt (P:=P) w base t o.type e i z size bytes ht hi hz hsize hby hzs hsz v n xs hown u m news hr h1 h63 hbytes hbase
 unfold Oper.wp execOp
 simp only [ho,resolve,invoke,builtin,Sem.run_bind,Sem.run_pure,Result.andThen_ok,List.map_toArray,List.map_cons,List.map_nil,hs,hx,hrun]
 exact h v' w' h2 h3 h4
theorem zay {ops:Array Oper} {rest:List Oper} {o:Oper} {a:Act} {Q:Exit->Act->World->Prop} (hgd:o.guard=none) (s x:Operand) (t:TypeId)
  (ho:o.op= .call { callee:= .builtin .append,args:= #[s,x],argTypes:= #[t,t] })
  (base:Nat) (e:TypeId) (i:TypeInfo) (z:Value) (size bytes:Nat) (ht:P.underlying t=some (.slice e)) (hi:P.info? e=some i) (hz:i.zero=some z)
  (hsize:i.size=size) (hby:i.bytes=bytes) (hzs:z.cells.size=size) (hsz:0 < size)
  (v:Value) (n:Nat) (xs:List Value) (hs:a.eval s=v) (hown:w.ownsRow base e size v n xs)
  (u:Value) (m:Nat) (news:List Value) (hx:a.eval x=u) (hr:RdS w size u m news) (h1:∀ u ∈ news,u.oneCell'=true)
  (h63:n + m<=maxLen) (hbytes:(n + m) * bytes<=140737488355328) (hbase:base<=w.heap.size)
  (h:∀ v' w',w'.ownsRow base e size v' (n + m) (xs ++ news)->w.grownBy w' v.ownBlock->(v'.ownBlock=v.ownBlock\/v'.ownBlock=some w.heap.size)->wpList P ops Q rest (a.put o.dst v') w'):wpList P ops Q (o::rest) a w:=
 wpList_plain hgd fun _ hK=> zk5 s x t ho base e i z size bytes ht hi hz hsize hby hzs hsz v n xs hs hown u m news hx hr h1 h63 hbytes hbase fun v' w' h2 h3 h4=> hK _ _ (h v' w' h2 h3 h4)
theorem zbg {ops:Array Oper} {o:Oper} {a:Act} {K:Act->World->Prop} {Q:Exit->Act->World->Prop} {E:Prop} (hgd:o.guard=none) (s x:Operand) (t:TypeId)
  (ho:o.op= .call { callee:= .builtin .append,args:= #[s,x],argTypes:= #[t,t] })
  (base:Nat) (e:TypeId) (i:TypeInfo) (z:Value) (size bytes:Nat) (ht:P.underlying t=some (.slice e)) (hi:P.info? e=some i) (hz:i.zero=some z)
  (hsize:i.size=size) (hby:i.bytes=bytes) (hzs:z.cells.size=size) (hsz:0 < size)
  (v:Value) (n:Nat) (xs:List Value) (hs:a.eval s=v) (hown:w.ownsRow base e size v n xs)
  (u:Value) (m:Nat) (news:List Value) (hx:a.eval x=u) (hr:RdS w size u m news) (h1:∀ u ∈ news,u.oneCell'=true)
  (h63:n + m<=maxLen) (hbytes:(n + m) * bytes<=140737488355328) (hbase:base<=w.heap.size)
  (h:∀ v' w',w'.ownsRow base e size v' (n + m) (xs ++ news)->w.grownBy w' v.ownBlock->(v'.ownBlock=v.ownBlock\/v'.ownBlock=some w.heap.size)->K (a.put o.dst v') w'):
  if Region.wanted o (yielded ops a.tmps)=true then Oper.wp P o a w K Q else E:=by
 have hw:Region.wanted o (yielded ops a.tmps)=true:=by simp [Region.wanted,hgd]
 rw [if_pos hw]
 exact zk5 s x t ho base e i z size bytes ht hi hz hsize hby hzs hsz v n xs hs hown u m news hx hr h1 h63 hbytes hbase h
end

theorem RdS.new {w:World} {g:Nat} {cs:Array Value} {t:TypeId} {sz n:Nat} (hg:w.heap[g]?=some (.cells cs t (0,0))) (hl:cs.size=n * sz) (hn:(n:Int)<=9223372036854775807):RdS w sz (.slice (some ⟨g,0,.none⟩) n n) n cs.toList:=by
 refine ⟨_,n,rfl,Nat.le_refl _,hn,by simpa using hl,fun _=> ⟨g,0,rfl,(Array.getElem?_eq_some_iff.1 hg).1,fun i hi=> ?_⟩⟩
 rw [cell_of_row w g _ cs t (0,0) hg]
 simp
theorem zaw {E:TypeId} {B sz:Nat} {a w w':World} {v:Value} {n:Nat} {xs:List Value} (h:Below B a w) (ho:w.ownsRow B E sz v n xs) (hB:B<=w.heap.size) (hg:w.grownBy w' v.ownBlock):Below B a w':=
 h.trans ⟨hg.os,hg.tape,hg.output,hg.size,fun k hk=> hg.block k (by omega) (fun e=> by have:=(ho.lt k e.symm).1;omega)⟩
end

section

open Go.RowKit

structure Only (F:Nat->Prop) (w w':World):Prop where
 os:w'.os=w.os
 tape:w'.tape=w.tape
 output:w'.output=w.output
 size:w.heap.size<=w'.heap.size
 block:∀ k,k < w.heap.size->¬ F k->w'.heap[k]?=w.heap[k]?
theorem Only.refl (F:Nat->Prop) (w:World):Only F w w:=⟨rfl,rfl,rfl,Nat.le_refl _,fun _ _ _=> rfl⟩
theorem Only.of_below {F:Nat->Prop} {w w':World} (h:Below w.heap.size w w'):Only F w w':=⟨h.os,h.tape,h.output,h.size,fun k hk _=> h.block k hk⟩
theorem Only.below {F:Nat->Prop} {w w':World} {B:Nat} (h:Only F w w') (hB:B<=w.heap.size) (hF:∀ k,F k->B<=k):Below B w w':=
 ⟨h.os,h.tape,h.output,h.size,fun k hk=> h.block k (by omega) (fun hf=> by have:=hF k hf;omega)⟩
theorem Only.trans {F G:Nat->Prop} {a b c:World} (h:Only F a b) (k:Only G b c) (hG:∀ i,i < a.heap.size->G i->F i):Only F a c:=
 ⟨k.os.trans h.os,k.tape.trans h.tape,k.output.trans h.output,Nat.le_trans h.size k.size,fun i hi hf=> (k.block i (by have:=h.size;omega) (fun hg=> hf (hG i hi hg))).trans (h.block i hi hf)⟩
theorem Only.tb {F:Nat->Prop} {a b c:World} (h:Only F a b) (k:Below b.heap.size b c):Only F a c:=Only.trans h (Only.of_below (F:=fun _=> False) k) fun _ _ e=> e.elim
theorem Only.setCell {F:Nat->Prop} {a w:World} (h:Only F a w) {p:Addr} (hp:F p.block\/a.heap.size<=p.block) (u:Value):Only F a (w.setCell p u):=
 ⟨h.os,h.tape,h.output,by simpa [World.setCell] using h.size,fun k hk hf=> (Below.heap_setCell w p u k (fun e=> by rcases hp with hp | hp;exact hf (e ▸ hp);omega)).trans (h.block k hk hf)⟩
theorem Only.alloc {F:Nat->Prop} {a w:World} (h:Only F a w) (o:Obj):Only F a (w.alloc o):=
 ⟨h.os,h.tape,h.output,by have:=h.size;simp;omega,fun k hk hf=> (Below.heap_alloc w o k (by have:=h.size;omega)).trans (h.block k hk hf)⟩
theorem Only.drew {F:Nat->Prop} {a w:World} (h:Only F a w):Only F a w.drew:=⟨h.os,h.tape,h.output,h.size,h.block⟩
theorem Only.drewN {F:Nat->Prop} {a w:World} (h:Only F a w) (n:Nat):Only F a (w.drewN n):=⟨h.os,h.tape,h.output,h.size,h.block⟩
theorem Only.grown {F:Nat->Prop} {a w w':World} {row:Option Nat} (h:Only F a w) (hg:w.grownBy w' row) (hr:∀ k,row=some k->F k\/a.heap.size<=k):Only F a w':=
 ⟨hg.os.trans h.os,hg.tape.trans h.tape,hg.output.trans h.output,Nat.le_trans h.size hg.size,fun k hk hf=> (hg.block k (by have:=h.size;omega) (fun e=> by rcases hr k e.symm with h' | h';exact hf h';omega)).trans (h.block k hk hf)⟩
theorem zas {w w':World} {B:Nat} {E:TypeId} {size:Nat} {v:Value} {n:Nat} {xs:List Value} (h:w.ownsRow B E size v n xs) (hb:∀ k,v.ownBlock=some k->w'.heap[k]?=w.heap[k]?):w'.ownsRow B E size v n xs:=by
 refine ⟨h.1,?_⟩
 rcases h.2 with hn | ⟨g,cap,cur,rfl,h1,h2,r⟩
 ·exact .inl hn
 ·exact .inr ⟨g,cap,cur,rfl,h1,by rw [hb g rfl];exact h2,r⟩
def foot (s:Nat) (sl:Value):Nat->Prop:=fun k=> k=s\/sl.ownBlock=some k
end

section

open Go.RowKit

attribute [local go_sem ↓] Go.wp_at_zero Go.wp_at_succ

def rowW (xs:List Int):Array Value:=(xs.map (Value.int .u64)).toArray
def zio (b:Nat) (m:Mem):Array Value:= #[.slice (some ⟨b,0,.none⟩) m.ws.length m.ws.length,.int .i64 m.st,.int .i64 m.la.c,.int .i64 m.la.k,.int .i64 m.la.a,.int .u64 m.la.was,.int .u64 m.la.put,.bool m.la.ok]
structure zaq (w:World) (p b:Nat) (m:Mem):Prop where
 ne:p≠b
 blk:w.heap[p]?=some (.cells (zio b m) 108 (0,0))
 row:w.heap[b]?=some (.cells (rowW m.ws) 67 (0,0))
 fit:m.fit
 few:m.ws.length<=2000
 stb:0<=m.st/\m.st<=1000000000
theorem Mem.ze4 {m:Mem} (h:m.fit) (a:Int):0<=m.get a/\m.get a < 18446744073709551616:=by
 unfold Mem.get
 by_cases ha:a.toNat < m.ws.length
 ·rw [List.getD_eq_getElem?_getD,List.getElem?_eq_getElem ha]
  exact h _ (List.getElem_mem ha)
 ·rw [List.getD_eq_getElem?_getD,List.getElem?_eq_none (by omega)]
  exact ⟨by decide,by decide⟩
theorem zaq.cell {w:World} {p b:Nat} {m:Mem} (h:zaq w p b m) {a:Int} (ha:m.has a):w.cell? ⟨b,a.toNat,.none⟩=some (.int .u64 (m.get a)):=by
 have hl:a.toNat < m.ws.length:=by have:=ha.1;have:=ha.2;omega
 refine (zac h.row a.toNat).trans ?_
 simp [rowW,Mem.get,hl]
theorem zvd (p b:Nat) (m:Mem) (a:Int) (w:World) (h:zaq w p b m) (ha:m.has a):
  Calls Tryz.prog 46 #[.pointer (some ⟨p,0,.none⟩),.int .i64 a] w fun e w'=> e= .returned (.bool true)/\w'=w:=by
 obtain ⟨n,hn,hn'⟩:=hidv m.ws.length
 have x0:w.cell? ⟨p,0,.none⟩=some (.slice (some ⟨b,0,.none⟩) n n):=by rw [hn'];exact zac h.blk 0
 have a0:(0:Int)<=a:=ha.1
 have a1:a < (n:Int):=by rw [hn'];exact ha.2
 clear hn' h ha
 go_enter Tryz.func46,Tryz.ntmps46
 go_wp2_with fail
 go_ret
 exact ⟨rfl,rfl⟩
theorem znu (p b:Nat) (m:Mem) (a:Int) (w:World) (h:zaq w p b m) (ha:m.has a):
  Calls Tryz.prog 134 #[.pointer (some ⟨p,0,.none⟩),.int .i64 a] w fun e w'=> e= .returned (.tuple #[])/\w'=w:=by
 have h1:=hd' (zvd p b m a w h ha)
 clear h ha
 go_enter Tryz.func134,Tryz.ntmps134
 go_wp2_with (go_at_call 46;refine h1.out.mono ?_;rintro r w1 ⟨rfl,rfl⟩)
 refine bodyPost_end (results_none rfl _ _ _) rfl ⟨rfl,rfl⟩
def accV (a:Acc):Value:= .agg #[.int .i64 a.c,.int .i64 a.k,.int .i64 a.a,.int .u64 a.was,.int .u64 a.put,.bool a.ok]
theorem znh (p b:Nat) (m:Mem) (a:Acc) (w:World) (h:zaq w p b m) (hs:m.st < 1000000000):
  Calls Tryz.prog 135 #[.pointer (some ⟨p,0,.none⟩),.agg #[.int .i64 a.c,.int .i64 a.k,.int .i64 a.a,.int .u64 a.was,.int .u64 a.put,.bool a.ok]] w fun e w'=> e= .returned (.tuple #[])/\zaq w' p b ⟨m.ws,m.st + 1,a⟩/\Only (fun k=> k=p) w w':=by
 have w1:IntKind.i64.wrap (m.st + 1)=m.st + 1:=by rw [IntKind.wrap_i64];have:=h.stb;omega
 have lp:p < w.heap.size:=(Array.getElem?_eq_some_iff.1 h.blk).1
 have lb:b < w.heap.size:=(Array.getElem?_eq_some_iff.1 h.row).1
 go_enter Tryz.func135,Tryz.ntmps135
 go_upto_region 1 with fail
 have hb:=(Below.refl w.heap.size w).alloc lr (.cells #[.int .i64 a.c,.int .i64 a.k,.int .i64 a.a,.int .u64 a.was,.int .u64 a.put,.bool a.ok] 106)
 have be:=heap_alloc_new w (.cells #[.int .i64 a.c,.int .i64 a.k,.int .i64 a.a,.int .u64 a.was,.int .u64 a.put,.bool a.ok] 106)
 generalize w.alloc (.cells #[.int .i64 a.c,.int .i64 a.k,.int .i64 a.a,.int .u64 a.was,.int .u64 a.put,.bool a.ok] 106)=V at *
 obtain ⟨E,hE,hE'⟩:=hidv w.heap.size
 simp only [<- hE'] at be ⊢
 have hpE:p≠E:=by omega
 clear hE'
 have hp:=(hb.block p lp).trans h.blk
 have x1:V.cell? ⟨p,1,.none⟩=some (.int .i64 m.st):=zac hp 1
 have x2:V.cell? ⟨p,2,.none⟩=some (.int .i64 m.la.c):=zac hp 2
 have x3:V.cell? ⟨p,3,.none⟩=some (.int .i64 m.la.k):=zac hp 3
 have x4:V.cell? ⟨p,4,.none⟩=some (.int .i64 m.la.a):=zac hp 4
 have x5:V.cell? ⟨p,5,.none⟩=some (.int .u64 m.la.was):=zac hp 5
 have x6:V.cell? ⟨p,6,.none⟩=some (.int .u64 m.la.put):=zac hp 6
 have x7:V.cell? ⟨p,7,.none⟩=some (.bool m.la.ok):=zac hp 7
 have xf:=zax hp
 have y0:V.cell? ⟨E,0,.none⟩=some (.int .i64 a.c):=zac be 0
 have y1:V.cell? ⟨E,1,.none⟩=some (.int .i64 a.k):=zac be 1
 have y2:V.cell? ⟨E,2,.none⟩=some (.int .i64 a.a):=zac be 2
 have y3:V.cell? ⟨E,3,.none⟩=some (.int .u64 a.was):=zac be 3
 have y4:V.cell? ⟨E,4,.none⟩=some (.int .u64 a.put):=zac be 4
 have y5:V.cell? ⟨E,5,.none⟩=some (.bool a.ok):=zac be 5
 go_wp2_with fail
 refine bodyPost_end (results_none rfl _ _ _) rfl ⟨rfl,⟨h.ne,?_,?_,h.fit,h.few,?_⟩,?_⟩
 ·rw [heap_setCell_same _ p 7 _ _ _ (heap_setCell_same _ p 6 _ _ _ (heap_setCell_same _ p 5 _ _ _ (heap_setCell_same _ p 4 _ _ _ (heap_setCell_same _ p 3 _ _ _ (heap_setCell_same _ p 2 _ _ _ (heap_setCell_same _ p 1 _ _ _ hp))))))];rfl
 ·have hne:b≠p:=fun e=> h.ne e.symm
  exact (Below.heap_setCell _ ⟨p,7,.none⟩ _ b hne).trans ((Below.heap_setCell _ ⟨p,6,.none⟩ _ b hne).trans ((Below.heap_setCell _ ⟨p,5,.none⟩ _ b hne).trans ((Below.heap_setCell _ ⟨p,4,.none⟩ _ b hne).trans ((Below.heap_setCell _ ⟨p,3,.none⟩ _ b hne).trans ((Below.heap_setCell _ ⟨p,2,.none⟩ _ b hne).trans ((Below.heap_setCell _ ⟨p,1,.none⟩ _ b hne).trans ((hb.block b lb).trans h.row)))))))
 ·have:=h.stb;dsimp only;omega
 ·exact ((((((((Only.of_below (F:=fun k=> k=p) hb).setCell (.inl rfl) _).setCell (.inl rfl) _).setCell (.inl rfl) _).setCell (.inl rfl) _).setCell (.inl rfl) _).setCell (.inl rfl) _).setCell (.inl rfl) _)
theorem zc1 (p b:Nat) (m:Mem) (c a:Int) (w:World) (h:zaq w p b m) (ha:m.has a) (hs:m.st < 1000000000):
  Calls Tryz.prog 123 #[.pointer (some ⟨p,0,.none⟩),.int .i64 c,.int .i64 a] w fun e w'=> e= .returned (.int .u64 (m.get a))/\zaq w' p b (m.load c a)/\Only (fun k=> k=p) w w':=by
 have h1:=hd' (znu p b m a w h ha)
 have h2:=hd' (fun x:Acc=> znh p b m x w h hs)
 obtain ⟨n,hn,hn'⟩:=hidv m.ws.length
 have x0:w.cell? ⟨p,0,.none⟩=some (.slice (some ⟨b,0,.none⟩) n n):=by rw [hn'];exact zac h.blk 0
 have y0:=h.cell ha
 have a0:(0:Int)<=a:=ha.1
 have a1:a < (n:Int):=by rw [hn'];exact ha.2
 replace hn':=hd' hn'
 go_enter Tryz.func123,Tryz.ntmps123
 go_wp2_with (first
  | (go_at_call 134;refine h1.out.mono ?_;rintro r w1 ⟨rfl,hw⟩;obtain rfl:=hw.symm)
  | (go_at_call 135;refine (h2.out ⟨c,0,a,m.get a,0,true⟩).mono ?_;rintro r w2 ⟨rfl,hw2,ho2⟩;have x2:w2.cell? ⟨p,0,.none⟩=some (.slice (some ⟨b,0,.none⟩) n n):=(by rw [hn'.out];exact zac hw2.blk 0);have y2:w2.cell? ⟨b,a.toNat,.none⟩=some (.int .u64 (m.get a)):=hw2.cell (m:=⟨m.ws,m.st + 1,⟨c,0,a,m.get a,0,true⟩⟩) ha) | fail)
 go_ret
 exact ⟨rfl,hw2,ho2⟩
theorem zaq.put {w:World} {p b:Nat} {m:Mem} (h:zaq w p b m) {a x:Int} (ha:m.has a) (hx:0<=x/\x < 18446744073709551616):zaq (w.setCell ⟨b,a.toNat,.none⟩ (.int .u64 x)) p b ⟨m.ws.set a.toNat x,m.st,m.la⟩:=by
 refine ⟨h.ne,?_,?_,?_,by simpa using h.few,h.stb⟩
 ·rw [Below.heap_setCell _ ⟨b,a.toNat,.none⟩ _ p h.ne,h.blk]
  simp [zio]
 ·rw [heap_setCell_same w b a.toNat _ _ _ h.row]
  simp only [rowW,List.map_set,List.setIfInBounds_toArray]
 ·intro y hy
  rcases List.mem_or_eq_of_mem_set hy with hy | rfl
  ·exact h.fit y hy
  ·exact hx
theorem zba (p b:Nat) (m:Mem) (c a x:Int) (w:World) (h:zaq w p b m) (ha:m.has a) (hx:0<=x/\x < 18446744073709551616) (hs:m.st < 1000000000):
  Calls Tryz.prog 118 #[.pointer (some ⟨p,0,.none⟩),.int .i64 c,.int .i64 a,.int .u64 x] w fun e w'=> e= .returned (.tuple #[])/\zaq w' p b (m.store c a x)/\Only (fun k=> k=p\/k=b) w w':=by
 have h1:=hd' (znu p b m a w h ha)
 have h2:=hd' (fun x:Acc=> znh p b m x w h hs)
 obtain ⟨n,hn,hn'⟩:=hidv m.ws.length
 have x0:w.cell? ⟨p,0,.none⟩=some (.slice (some ⟨b,0,.none⟩) n n):=by rw [hn'];exact zac h.blk 0
 have y0:=h.cell ha
 have a0:(0:Int)<=a:=ha.1
 have a1:a < (n:Int):=by rw [hn'];exact ha.2
 replace hn':=hd' hn'
 go_enter Tryz.func118,Tryz.ntmps118
 go_wp2_with (first
  | (go_at_call 134;refine h1.out.mono ?_;rintro r w1 ⟨rfl,hw⟩;obtain rfl:=hw.symm)
  | (go_at_call 135;refine (h2.out ⟨c,1,a,m.get a,x,true⟩).mono ?_;rintro r w2 ⟨rfl,hw2,ho2⟩;have x2:w2.cell? ⟨p,0,.none⟩=some (.slice (some ⟨b,0,.none⟩) n n):=(by rw [hn'.out];exact zac hw2.blk 0);have y2:w2.cell? ⟨b,a.toNat,.none⟩=some (.int .u64 (m.get a)):=hw2.cell (m:=⟨m.ws,m.st + 1,⟨c,1,a,m.get a,x,true⟩⟩) ha;have yf:=zax hw2.row) | fail)
 refine bodyPost_end (results_none rfl _ _ _) rfl ⟨rfl,?_,?_⟩
 ·exact hw2.put (m:=⟨m.ws,m.st + 1,⟨c,1,a,m.get a,x,true⟩⟩) ha hx
 ·exact (Only.trans (F:=fun k=> k=p\/k=b) (Only.refl _ _) ho2 (fun _ _ h=> .inl h)).setCell (.inl (.inr rfl)) _
theorem zff (p b:Nat) (m:Mem) (c a was x:Int) (w:World) (h:zaq w p b m) (ha:m.has a) (hx:0<=x/\x < 18446744073709551616) (hs:m.st < 1000000000):
  Calls Tryz.prog 126 #[.pointer (some ⟨p,0,.none⟩),.int .i64 c,.int .i64 a,.int .u64 was,.int .u64 x] w fun e w'=> e= .returned (.bool (decide (m.get a=was)))/\zaq w' p b (m.swap c a was x)/\Only (fun k=> k=p\/k=b) w w':=by
 have h1:=hd' (znu p b m a w h ha)
 have h2:=hd' (fun x:Acc=> znh p b m x w h hs)
 obtain ⟨n,hn,hn'⟩:=hidv m.ws.length
 have x0:w.cell? ⟨p,0,.none⟩=some (.slice (some ⟨b,0,.none⟩) n n):=by rw [hn'];exact zac h.blk 0
 have y0:=h.cell ha
 have a0:(0:Int)<=a:=ha.1
 have a1:a < (n:Int):=by rw [hn'];exact ha.2
 replace hn':=hd' hn'
 by_cases hw:m.get a=was
 ·rw [decide_eq_true hw]
  have hr:m.swap c a was x=⟨m.ws.set a.toNat x,m.st + 1,⟨c,2,a,m.get a,x,true⟩⟩:=by unfold Mem.swap;rw [if_pos hw,decide_eq_true hw]
  rw [hr]
  clear hr
  have hb:(m.get a==was)=true:=by simpa using hw
  clear hw
  go_enter Tryz.func126,Tryz.ntmps126
  go_wp2_with (first
   | (go_at_call 134;refine h1.out.mono ?_;rintro r w1 ⟨rfl,hw⟩;obtain rfl:=hw.symm)
   | (go_at_call 135;refine (h2.out ⟨c,2,a,m.get a,x,true⟩).mono ?_;rintro r w2 ⟨rfl,hw2,ho2⟩;have x2:w2.cell? ⟨p,0,.none⟩=some (.slice (some ⟨b,0,.none⟩) n n):=(by rw [hn'.out];exact zac hw2.blk 0);have y2:w2.cell? ⟨b,a.toNat,.none⟩=some (.int .u64 (m.get a)):=hw2.cell (m:=⟨m.ws,m.st + 1,⟨c,2,a,m.get a,x,true⟩⟩) ha;have yf:=zax hw2.row) | fail)
  go_returns
  refine ⟨rfl,?_,?_⟩
  ·exact hw2.put (m:=⟨m.ws,m.st + 1,⟨c,2,a,m.get a,x,true⟩⟩) ha hx
  ·exact (Only.trans (F:=fun k=> k=p\/k=b) (Only.refl _ _) ho2 (fun _ _ h=> .inl h)).setCell (.inl (.inr rfl)) _
 ·rw [decide_eq_false hw]
  have hr:m.swap c a was x=⟨m.ws,m.st + 1,⟨c,2,a,m.get a,x,false⟩⟩:=by unfold Mem.swap;rw [if_neg hw,decide_eq_false hw]
  rw [hr]
  clear hr
  have hb:(m.get a==was)=false:=by simpa using hw
  clear hw
  go_enter Tryz.func126,Tryz.ntmps126
  go_wp2_with (first
   | (go_at_call 134;refine h1.out.mono ?_;rintro r w1 ⟨rfl,hw⟩;obtain rfl:=hw.symm)
   | (go_at_call 135;refine (h2.out ⟨c,2,a,m.get a,x,false⟩).mono ?_;rintro r w2 ⟨rfl,hw2,ho2⟩) | fail)
  go_returns
  exact ⟨rfl,hw2,Only.trans (F:=fun k=> k=p\/k=b) (Only.refl _ _) ho2 (fun _ _ h=> .inl h)⟩
end

end Go.Proofs.YthgekdlegbmehaaGreat
