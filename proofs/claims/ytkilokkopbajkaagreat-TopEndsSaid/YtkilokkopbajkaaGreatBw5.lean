
import Derived.Defers

import Derived.Recover

import Derived.Test.YtkilokkopbajkaaGreatBw4

set_option linter.all false
namespace Go.Proofs.YtkilokkopbajkaaGreat

open RowKit

attribute [local go_sem ↓] wp_at_zero wp_at_succ
inductive Mc
 |tk (t:Tk)
 |sc (t:Sc)
 |pc (t:Pc)
 |sp (t:Sp)
 |bn (t:Bn)
 deriving DecidableEq
def Mc.done:Mc->Bool
 |.tk t=>t.done
 |.sc t=>t.done
 |.pc t=>t.done
 |.sp t=>t.done
 |.bn t=>t.done
def yB (s:Sh):Mc->Mem->Mc×Mem
 |.tk t,m=>(.tk (XC s t m).1,(XC s t m).2)
 |.sc t,m=>(.sc (xD s t m).1,(xD s t m).2)
 |.pc t,m=>(.pc (ZD s t m).1,(ZD s t m).2)
 |.sp t,m=>(.sp (SC s t m).1,(SC s t m).2)
 |.bn t,m=>(.bn (YD s t m).1,(YD s t m).2)
structure Sk where
 c:Int
 k:Int
 first:Int
 now:Option Mc
 many:Int
 page:Int
 slot:Int
 found:Bool
 done:Bool
 deriving DecidableEq
def Sk.here (s:Sh) (t:Sk):Int:=(t.first+t.many) % s.p
def Sk.fin (t:Sk) (pg sl:Int):Sk:={t with page:=pg,slot:=sl,found:=true,done:=true}
def Sk.turn (s:Sh) (t:Sk):Sk:={t with now:=none,many:=t.many+1,done:=decide (t.many+1=s.p)}
def Sk.bind (s:Sh) (t:Sk) (p:Int):Sk:={t with page:=p,now:=some (.bn (mC s t.c p t.k))}
def Sk.after (s:Sh) (t:Sk):Mc->Sk
 |.tk x=>if x.found=true then t.fin x.ep x.es else {t with now:=some (.sc (eD s t.c t.k t.first))}
 |.sc x=>if x.found=true then t.fin (x.page s) x.i else {t with now:=some (.pc (mE s t.c t.first))}
 |.pc x=>if x.found=true then t.bind s (x.page s) else {t with now:=none}
 |.sp x=>if x.held=true then t.bind s (t.here s) else t.turn s
 |.bn _=>t.fin t.page 0
def OA (s:Sh):Nat->Sk->Sk
 | 0,t=>t
 |n+1,t=>match t.now with
  |some x=>if t.done=false/\x.done=true then OA s n (t.after s x) else t
  |none=>t
def dD (s:Sh) (c k first:Int):Sk:=
 if 0<=uA s.p s.c s.m c/\0<mA k/\0<=pA s.p s.c s.m first then OA s 5 ⟨c,k,first,some (.tk (sC s c k)),0,0,0,false,false⟩
 else ⟨c,k,first,none,0,0,0,false,true⟩
def AB (s:Sh) (t:Sk) (m:Mem):Sk×Mem:=
 if t.done=true then (t,m)
 else match t.now with
  |some x=>(OA s 5 {t with now:=some (yB s x m).1},(yB s x m).2)
  |none=>
   let pg:=pA s.p s.c s.m (t.here s)
   (if LA s.p s.c s.m (t.here s) (m.get pg)=true/\PA (m.get pg)=2 then {t with now:=some (.sp (VB s t.c (t.here s) (nA (m.get pg) 0)))} else t.turn s,m.load t.c pg)
structure Rn where
 c:Int
 pages:Int
 head:Int
 at':Int
 i:Int
 next:Int
 strip:Option Sp
 found:Bool
 done:Bool
 deriving DecidableEq
def FC (s:Sh) (c n:Int):Rn:=⟨c,n,0,0,0,0,none,false,!(decide (0<=uA s.p s.c s.m c)&&decide (1<=n)&&decide (n<=8)&&decide (n<=s.p))⟩
def Rn.written (t:Rn):Rn:=if t.i+1=t.head+t.pages then {t with i:=t.i+1,found:=true,done:=true} else {t with i:=t.i+1}
def Rn.own (t:Rn):Rn:=if t.at'+1=t.head+t.pages then ({t with at':=t.at'+1,next:=5,i:=t.head}:Rn).written else {t with at':=t.at'+1,next:=0}
def Rn.gone (s:Sh) (t:Rn):Rn:=if t.head<t.i then t else {t with at':=t.at'+1,head:=t.at'+1,next:=0,done:=decide (s.p-t.pages<t.at'+1)}
def Rn.miss (s:Sh) (t:Rn):Rn:=({t with next:=4,i:=t.at'}:Rn).gone s
def aC (s:Sh) (t:Rn) (m:Mem):Rn×Mem:=
 if t.done=true then (t,m)
 else
  let pg:=pA s.p s.c s.m t.at'
  if t.next=0 then
   (if LA s.p s.c s.m t.at' (m.get pg)=true/\PA (m.get pg)=0 then {t with next:=1}
    else if LA s.p s.c s.m t.at' (m.get pg)=true/\PA (m.get pg)=2 then {t with next:=2,strip:=some (VB s t.c t.at' (nA (m.get pg) 0))}
    else t.miss s,m.load t.c pg)
  else if t.next=1 then (if m.get pg=0 then t.own else t.miss s,m.swap t.c pg 0 (WC t.c))
  else if t.next=2 then
   match t.strip with
   |some x=>
    let r:=SC s x m
    let t':Rn:={t with strip:=some r.1}
    (if r.1.held=true then {t' with next:=3,i:=0} else if r.1.done=true then t'.miss s else t',r.2)
   |none=>(t,m)
  else if t.next=3 then (if t.i+1=16 then ({t with i:=t.i+1}:Rn).own else {t with i:=t.i+1},m.store t.c (bB s.p s.c s.m t.at' t.i) 0)
  else if t.next=4 then (({t with i:=t.i-1}:Rn).gone s,m.store t.c (pA s.p s.c s.m (t.i-1)) (QA 0 0 0))
  else (t.written,m.store t.c (pA s.p s.c s.m t.i) (QA 4 t.head 0))
structure Blk where
 large:Bool
 page:Int
 slot:Int
 k:Int
 pages:Int
 deriving DecidableEq
def Blk.zero:Blk:=⟨false,0,0,0,0⟩
def Blk.at' (b:Blk):Int:=if b.large=true then b.page*64 else b.page*64+b.slot*zA b.k
def Blk.len (b:Blk):Int:=if b.large=true then b.pages*64 else zA b.k
def Blk.fits (s:Sh) (c:Int) (b:Blk):Bool:=
 if uA s.p s.c s.m c<0\/pA s.p s.c s.m b.page<0 then false
 else if b.large=true then decide (1<=b.pages)&&decide (b.pages<=8)&&decide (b.pages<=s.p-b.page)
 else decide (0<=b.slot)&&decide (b.slot<mA b.k)
structure Rs where
 k:Int
 pages:Int
 seeker:Option Sk
 runner:Option Rn
 deriving DecidableEq
def mB (s:Sh) (c n first:Int):Rs:=
 if wi n 1 32=true then ⟨pB n,0,some (dD s c (pB n) first),none⟩
 else if wi n 33 512=true then ⟨0,runV n,none,some (FC s c (runV n))⟩
 else ⟨0,0,none,none⟩
def Rs.done (t:Rs):Bool:=match t.seeker,t.runner with
 |some x,_=>x.done
 |none,some x=>x.done
 |none,none=>true
def CB (s:Sh) (t:Rs) (m:Mem):Rs×Mem:=match t.seeker,t.runner with
 |some x,_=>({t with seeker:=some (AB s x m).1},(AB s x m).2)
 |none,some x=>({t with runner:=some (aC s x m).1},(aC s x m).2)
 |none,none=>(t,m)
def Rs.got (t:Rs):Option Blk:=match t.seeker,t.runner with
 |some x,_=>if x.found=true then some ⟨false,x.page,x.slot,t.k,0⟩ else none
 |none,some x=>if x.found=true then some ⟨true,x.head,0,0,t.pages⟩ else none
 |none,none=>none
structure Cm where
 c:Int
 b:Blk
 done:Bool
 deriving DecidableEq
def zB (s:Sh) (c:Int) (b:Blk):Cm:=⟨c,b,!b.fits s c⟩
def GB (s:Sh) (t:Cm) (m:Mem):Cm×Mem:=
 if t.done=true then (t,m)
 else ({t with done:=true},if t.b.large=true then m.store t.c (pA s.p s.c s.m t.b.page) (QA 3 t.b.pages 0) else m.store t.c (bB s.p s.c s.m t.b.page t.b.slot) (CE t.b.k))
structure Un where
 c:Int
 b:Blk
 i:Int
 done:Bool
 deriving DecidableEq
def UC (s:Sh) (c:Int) (b:Blk):Un:=⟨c,b,0,!b.fits s c⟩
def QB (s:Sh) (t:Un) (m:Mem):Un×Mem:=
 if t.done=true then (t,m)
 else if t.b.large=false then ({t with done:=true},m.store t.c (bB s.p s.c s.m t.b.page t.b.slot) (BB t.b.k))
 else if t.i=t.b.pages-1 then ({t with done:=true},m.store t.c (pA s.p s.c s.m t.b.page) 0)
 else ({t with i:=t.i+1},m.store t.c (pA s.p s.c s.m (t.b.page+t.i+1)) 0)
structure Fe where
 c:Int
 a:Int
 page:Int
 slot:Int
 word:Int
 pk:Int
 pa:Int
 pb:Int
 next:Int
 i:Int
 put:Option Pu
 gave:Bool
 done:Bool
 deriving DecidableEq
def spB (s:Sh) (a:Int):Bool:=mayB s.p s.c s.m&&wi a 0 (s.p*64-1)
def uB (s:Sh) (c a:Int):Fe:=⟨c,a,if spB s a=true then a / 64 else 0,0,0,0,0,0,0,0,none,false,!spB s a||decide (uA s.p s.c s.m c<0)⟩
def Fe.look (s:Sh) (t:Fe) (m:Mem):Fe×Mem:=
 let pg:=pA s.p s.c s.m t.page
 let x:=m.get pg
 let b:=LA s.p s.c s.m t.page x
 let off:=t.a % 64
 let t':Fe:={t with word:=x,pk:=if b=true then PA x else 0,pa:=if b=true then nA x 0 else 0,pb:=if b=true then nA x 1 else 0,next:=1}
 (if b=true/\PA x=3/\off=0 then t'
  else if b=true/\PA x=2/\off % zA (nA x 0)=0 then {t' with slot:=off / zA (nA x 0)}
  else {t' with done:=true},m.load t.c pg)
def Fe.kept (t:Fe):Fe:=match t.put with
 |some x=>if x.put=true then {t with done:=true} else if x.done=true then {t with next:=3} else t
 |none=>t
def Fe.claim (s:Sh) (t:Fe) (m:Mem):Fe×Mem:=
 if t.pk=3 then
  let pg:=pA s.p s.c s.m t.page
  let g:=decide (m.get pg=t.word)
  ({t with gave:=g,next:=4,done:= !g},m.swap t.c pg t.word (WC t.c))
 else
  let at':=bB s.p s.c s.m t.page t.slot
  let g:=decide (m.get at'=CE t.pa)
  let t':Fe:={t with gave:=g,next:=3}
  let t'':Fe:=if t.pb=t.c then ({t' with put:=some (nD s t.c t.page t.slot t.pa),next:=2}:Fe).kept else t'
  ({t'' with done:= !g},m.swap t.c at' (CE t.pa) (wayW t.c))
def NB (s:Sh) (t:Fe) (m:Mem):Fe×Mem:=
 if t.done=true then (t,m)
 else if t.next=0 then t.look s m
 else if t.next=1 then t.claim s m
 else if t.next=2 then match t.put with
  |some x=>(({t with put:=some (YC s x m).1}:Fe).kept,(YC s x m).2)
  |none=>(t,m)
 else if t.next=3 then ({t with done:=true},m.store t.c (bB s.p s.c s.m t.page t.slot) (BB t.pa))
 else if t.i=t.pa-1 then ({t with done:=true},m.store t.c (pA s.p s.c s.m t.page) 0)
 else ({t with i:=t.i+1},m.store t.c (pA s.p s.c s.m (t.page+t.i+1)) 0)
structure Rr where
 c:Int
 res:Option Rs
 free:Option Fe
 undo:Option Un
 com:Option Cm
 err:Int
 done:Bool
 deriving DecidableEq
def Rr.settle (s:Sh) (t:Rr):Rr:=match t.res,t.free with
 |some r,some f=>
  if (match t.undo with|some u=>u.done|none=>false)=true then {t with err:=1,done:=true}
  else if (match t.com with|some u=>u.done|none=>false)=true then {t with err:=0,done:=true}
  else if r.done=false then t
  else match r.got with
   |none=>{t with err:=3,done:=true}
   |some b=>if t.undo.isSome=true\/t.com.isSome=true\/f.done=false then t else if f.gave=true then {t with com:=some (zB s t.c b)} else {t with undo:=some (UC s t.c b)}
 |_,_=>t
def pD (s:Sh) (c a n first:Int):Rr:=
 if spB s a=true/\lenB n=true/\0<=uA s.p s.c s.m c then Rr.settle s ⟨c,some (mB s c n first),some (uB s c a),none,none,0,false⟩
 else ⟨c,none,none,none,none,1,true⟩
def LB (s:Sh) (t:Rr) (m:Mem):Rr×Mem:=
 if t.done=true then (t,m)
 else match t.res,t.free with
  |some r,some f=>
   if r.done=false then (Rr.settle s {t with res:=some (CB s r m).1},(CB s r m).2)
   else if f.done=false then (Rr.settle s {t with free:=some (NB s f m).1},(NB s f m).2)
   else match t.undo,t.com with
    |some u,_=>(Rr.settle s {t with undo:=some (QB s u m).1},(QB s u m).2)
    |none,some u=>(Rr.settle s {t with com:=some (GB s u m).1},(GB s u m).2)
    |none,none=>(t,m)
  |_,_=>(t,m)
structure Ad where
 c:Int
 d:Int
 next:Int
 was:Int
 who:Int
 at':Int
 i:Int
 pk:Int
 pa:Int
 pb:Int
 err:Int
 done:Bool
 deriving DecidableEq
def Ad.fin (t:Ad) (e:Int):Ad:={t with err:=e,done:=true}
def qD (s:Sh) (c d:Int):Ad:=
 let t:Ad:=⟨c,d,0,0,0,0,0,0,0,0,0,false⟩
 if uA s.p s.c s.m c<0\/uA s.p s.c s.m d<0\/c=d then t.fin 1 else t
def iI (x:Int):Bool:=ZA (PA x) (nA x 0)==x
def XD (x:Int):Int:=if iI x=true then PA x else 0
def uD (x:Int):Int:=if iI x=true then nA x 0 else 0
def Ad.turn (s:Sh) (t:Ad) (again next:Int):Ad:=
 let t':Ad:=if t.at'+1=s.p then {t with at':=0,i:=0,next:=next} else {t with at':=t.at'+1,next:=again}
 if t'.next=9/\s.m=0 then {t' with next:=10} else t'
def Ad.own (s:Sh) (t:Ad) (a x:Int):Bool:=LA s.p s.c s.m a x&&PA x==1&&nA x 0==t.d
def Ad.slot (s:Sh) (t:Ad):Ad:=if t.i+1=mA t.pa then ({t with i:=0,next:=11}:Ad).turn s 10 13 else {t with i:=t.i+1,next:=11}
def Ad.keep (s:Sh) (t:Ad) (a x:Int):Ad:={t with pk:=if LA s.p s.c s.m a x=true then PA x else 0,pa:=if LA s.p s.c s.m a x=true then nA x 0 else 0,pb:=if LA s.p s.c s.m a x=true then nA x 1 else 0}
def EA (s:Sh) (t:Ad) (m:Mem):Ad×Mem:=
 if t.done=true then (t,m)
 else
  let pg:=pA s.p s.c s.m t.at'
  let sd:=uA s.p s.c s.m t.d
  let sl:=bB s.p s.c s.m t.at' t.i
  if t.next=0 then
   let x:=m.get sd
   let t':Ad:={t with was:=x}
   (if XD x=2 then {t' with next:=2}
    else if XD x≠3 then t'.fin 5
    else if uA s.p s.c s.m (uD x)<0 then t'.fin 4
    else {t' with who:=uD x,next:=1},m.load t.c sd)
  else if t.next=1 then
   let so:=uA s.p s.c s.m t.who
   (if XD (m.get so)=1 then ({t with next:=2}:Ad).fin 4 else {t with next:=2},m.load t.c so)
  else if t.next=2 then (if m.get sd=t.was then {t with next:=3} else ({t with next:=3}:Ad).fin 4,m.swap t.c sd t.was (ZA 3 t.c))
  else if t.next=3 then
   (if LA s.p s.c s.m t.at' (m.get pg)=true/\PA (m.get pg)=4 then {t.keep s t.at' (m.get pg) with next:=4} else (t.keep s t.at' (m.get pg)).turn s 3 6,m.load t.c pg)
  else if t.next=4 then
   let ph:=pA s.p s.c s.m t.pa
   (if t.own s t.pa (m.get ph)=true then {t with next:=5} else t.turn s 3 6,m.load t.c ph)
  else if t.next=5 then (t.turn s 3 6,m.store t.c pg 0)
  else if t.next=6 then (if t.own s t.at' (m.get pg)=true then {t with next:=7,i:=0} else t.turn s 6 9,m.load t.c pg)
  else if t.next=7 then (if t.i+1=16 then {t with i:=t.i+1,next:=8} else {t with i:=t.i+1},m.store t.c sl 0)
  else if t.next=8 then (t.turn s 6 9,m.store t.c pg 0)
  else if t.next=9 then (if t.i+1=s.m then {t with i:=0,next:=10} else {t with i:=t.i+1},m.store t.c (kC s.p s.c s.m t.d t.i) 0)
  else if t.next=10 then
   (if LA s.p s.c s.m t.at' (m.get pg)=true/\PA (m.get pg)=2 then {t.keep s t.at' (m.get pg) with next:=11,i:=0} else (t.keep s t.at' (m.get pg)).turn s 10 13,m.load t.c pg)
  else if t.next=11 then (if m.get sl=wayW t.d then {t with next:=12} else t.slot s,m.load t.c sl)
  else if t.next=12 then (t.slot s,m.store t.c sl (BB t.pa))
  else (t.fin 0,m.store t.c sd (ZA 4 0))
def aA (w:World) (q:Nat) (cs:Array Value) (T:TypeId):Prop:=w.heap[q]?=some (.cells cs T (0,0))
theorem Only.weak{F G:Nat->Prop}{w w':World}(h:Only F w w')(f:∀k,F k->G k):Only G w w':=⟨h.os,h.tape,h.output,h.size,λk j i=>h.block k j (λe=>i (f k e))⟩
theorem aA.lt{w:World}{q:Nat}{cs:Array Value}{T:TypeId}(h:aA w q cs T):q<w.heap.size:=(jE h)
theorem aA.set{w:World}{q:Nat}{cs:Array Value}{T:TypeId}(h:aA w q cs T)(i:Nat)(v:Value):aA (w.setCell ⟨q,i,.none⟩ v) q (cs.setIfInBounds i v) T:=heap_setCell_same w q i _ _ v h
theorem aA.other{w:World}{q:Nat}{cs:Array Value}{T:TypeId}(h:aA w q cs T){k:Nat}(f:q≠k)(i:Nat)(v:Value):aA (w.setCell ⟨k,i,.none⟩ v) q cs T:=(Below.heap_setCell w ⟨k,i,.none⟩ v q f).trans h
theorem aA.cast{w:World}{q:Nat}{cs cs':Array Value}{T:TypeId}(h:aA w q cs T)(e:cs=cs'):aA w q cs' T:=e▸h
theorem aA.below{w w':World}{q:Nat}{cs:Array Value}{T:TypeId}(h:aA w q cs T)(hb:Below w.heap.size w w'):aA w' q cs T:=(hb.block q h.lt).trans h
theorem aA.only{F:Nat->Prop}{w w':World}{q:Nat}{cs:Array Value}{T:TypeId}(h:aA w q cs T)(i:Only F w w')(f:¬F q):aA w' q cs T:=(i.block q h.lt f).trans h
theorem aA.cell{w:World}{q:Nat}{cs:Array Value}{T:TypeId}(h:aA w q cs T)(i:Nat):w.cell? ⟨q,i,.none⟩=cs[i]?:=iA h i
theorem aA.drew{w:World}{q:Nat}{cs:Array Value}{T:TypeId}(h:aA w q cs T):aA w.drew q cs T:=h
theorem aA.drewN{w:World}{q:Nat}{cs:Array Value}{T:TypeId}(h:aA w q cs T)(n:Nat):aA (w.drewN n) q cs T:=h
theorem aA.alloc{w:World}{q:Nat}{cs:Array Value}{T:TypeId}(h:aA w q cs T)(o:Obj):aA (w.alloc o) q cs T:=(Below.heap_alloc w o q h.lt).trans h
theorem oA.VH{w w':World}{p b:Nat}{m:Mem}(h:oA w p b m)(h1:w'.heap[p]?=w.heap[p]?)(h2:w'.heap[b]?=w.heap[b]?):oA w' p b m:=⟨h.ne,h1.trans h.blk,h2.trans h.row,h.fit,h.few,h.stb⟩
theorem oA.ltp{w:World}{p b:Nat}{m:Mem}(h:oA w p b m):p<w.heap.size:=aA.lt h.blk
theorem oA.ltb{w:World}{p b:Nat}{m:Mem}(h:oA w p b m):b<w.heap.size:=aA.lt h.row
theorem oA.other{w:World}{p b:Nat}{m:Mem}(h:oA w p b m){q:Nat}(f:q≠p)(hb:q≠b)(i:Nat)(v:Value):oA (w.setCell ⟨q,i,.none⟩ v) p b m:=
 h.VH (Below.heap_setCell w ⟨q,i,.none⟩ v p (Ne.symm f)) (Below.heap_setCell w ⟨q,i,.none⟩ v b (Ne.symm hb))
theorem oA.below{w w':World}{p b:Nat}{m:Mem}(h:oA w p b m)(hb:Below w.heap.size w w'):oA w' p b m:=h.VH (hb.block p h.ltp) (hb.block b h.ltb)
theorem oA.drew{w:World}{p b:Nat}{m:Mem}(h:oA w p b m):oA w.drew p b m:=h.VH rfl rfl
theorem oA.drewN{w:World}{p b:Nat}{m:Mem}(h:oA w p b m)(n:Nat):oA (w.drewN n) p b m:=h.VH rfl rfl
theorem oA.alloc{w:World}{p b:Nat}{m:Mem}(h:oA w p b m)(o:Obj):oA (w.alloc o) p b m:=h.VH (Below.heap_alloc w o p h.ltp) (Below.heap_alloc w o b h.ltb)
theorem oA.only{F:Nat->Prop}{w w':World}{p b:Nat}{m:Mem}(h:oA w p b m)(f:Only F w w')(i:¬F p)(hb:¬F b):oA w' p b m:=h.VH (f.block p h.ltp i) (f.block b h.ltb hb)
theorem boxedB{w w':World}{o:Obj}(h:Below (w.alloc o).heap.size (w.alloc o) w'):Below w.heap.size w w':=qA (br.alloc lr _) h
def Born (w w':World) (e:Ending) (cs:Array Value) (T:TypeId):Prop:=∃q,e=.returned (.pointer (some ⟨q,0,.none⟩))/\w.heap.size<=q/\aA w' q cs T/\Below w.heap.size w w'
theorem Born.mk{w w':World}{cs:Array Value}{T:TypeId}{q:Nat}(h1:w.heap.size<=q)(h2:aA w' q cs T)(h3:Below w.heap.size w w'):Born w w' (.returned (.pointer (some ⟨q,0,.none⟩))) cs T:=⟨q,rfl,h1,h2,h3⟩
theorem WB{w W X:World}{cs cs':Array Value}{T:TypeId}(hb:Below w.heap.size w W)(f:Below W.heap.size W X)(e:cs=cs'):Born w (X.alloc (.cells cs T)) (.returned (.pointer (some ⟨X.heap.size,0,.none⟩))) cs' T:=by
 subst e;have h1:=qA hb f;exact⟨_,rfl,h1.size,jA _ _,h1.trans (br.alloc h1.size _)⟩
structure At3 (q p b:Nat) (w w':World) (cs:Array Value) (T:TypeId) (m:Mem):Prop where
 row:aA w' q cs T
 wds:oA w' p b m
 only:Only (λk=>k=q\/k=p\/k=b) w w'
 qp:q≠p
 qb:q≠b
 ls:q<w.heap.size/\p<w.heap.size/\b<w.heap.size
section

variable {q p b:Nat}{w w' w'':World}{cs cs':Array Value}{T:TypeId}{m m':Mem}

theorem At3.start(h1:aA w q cs T)(h2:oA w p b m)(h3:q≠p)(h4:q≠b):At3 q p b w w cs T m:=⟨h1,h2,Only.refl _ _,h3,h4,h1.lt,h2.ltp,h2.ltb⟩
theorem At3.below(h:At3 q p b w w' cs T m)(hb:Below w'.heap.size w' w''):At3 q p b w w'' cs T m:=⟨h.row.below hb,h.wds.below hb,h.only.trans (Only.of_below (F:=λ_=>False) hb) (λ_ _ h=>h.elim),h.qp,h.qb,h.ls⟩
theorem At3.set(h:At3 q p b w w' cs T m)(i:Nat)(v:Value):At3 q p b w (w'.setCell ⟨q,i,.none⟩ v) (cs.setIfInBounds i v) T m:=⟨h.row.set i v,h.wds.other h.qp h.qb i v,h.only.setCell (.inl (.inl rfl)) _,h.qp,h.qb,h.ls⟩
theorem At3.drew(h:At3 q p b w w' cs T m):At3 q p b w w'.drew cs T m:=⟨h.row.drew,h.wds.drew,h.only.drew,h.qp,h.qb,h.ls⟩
theorem At3.drewN(h:At3 q p b w w' cs T m)(n:Nat):At3 q p b w (w'.drewN n) cs T m:=⟨h.row.drewN n,h.wds.drewN n,h.only.drewN n,h.qp,h.qb,h.ls⟩
theorem At3.alloc(h:At3 q p b w w' cs T m)(o:Obj):At3 q p b w (w'.alloc o) cs T m:=⟨h.row.alloc o,h.wds.alloc o,h.only.alloc o,h.qp,h.qb,h.ls⟩
theorem At3.new(h:At3 q p b w w' cs T m){k:Nat}(f:w.heap.size<=k)(i:Nat)(v:Value):At3 q p b w (w'.setCell ⟨k,i,.none⟩ v) cs T m:=by
 have:=h.ls;exact⟨h.row.other (by omega) i v,h.wds.other (by omega) (by omega) i v,h.only.setCell (.inr f) _,h.qp,h.qb,h.ls⟩
theorem At3.load(h:At3 q p b w w' cs T m)(h1:oA w'' p b m')(h2:Only (λk=>k=p) w' w''):At3 q p b w w'' cs T m':=
 ⟨h.row.only h2 h.qp,h1,h.only.trans h2 (λ_ _ e=>.inr (.inl e)),h.qp,h.qb,h.ls⟩
theorem At3.access(h:At3 q p b w w' cs T m)(h1:oA w'' p b m')(h2:Only (λk=>k=p\/k=b) w' w''):At3 q p b w w'' cs T m':=
 ⟨h.row.only h2 (λe=>e.elim h.qp h.qb),h1,h.only.trans h2 (λ_ _ e=>.inr e),h.qp,h.qb,h.ls⟩
theorem At3.far{B:Nat}(h:At3 q p b w w' cs T m)(j:B<=w'.heap.size)(h2:Only (λk=>B<=k) w' w'')(h3:w.heap.size<=B:=by assumption):At3 q p b w w'' cs T m:=by
 have:=h.ls;exact⟨h.row.only h2 (by omega),h.wds.only h2 (by omega) (by omega),⟨h2.os.trans h.only.os,h2.tape.trans h.only.tape,h2.output.trans h.only.output,Nat.le_trans h.only.size h2.size,λk i f=>(h2.block k (by have:=h.only.size;omega) (by omega)).trans (h.only.block k i f)⟩,h.qp,h.qb,h.ls⟩
theorem At3.free(h:At3 q p b w w' cs T m)(i:Nat):w'.frozen? ⟨q,i,.none⟩=false:=KA h.row i
theorem At3.lt(h:At3 q p b w w' cs T m):q<w'.heap.size:=h.row.lt
theorem At3.cell(h:At3 q p b w w' cs T m)(i:Nat):w'.cell? ⟨q,i,.none⟩=cs[i]?:=h.row.cell i
end

structure Stepped (q p b:Nat) (w w':World) (e:Ending) (cs:Array Value) (T:TypeId) (m:Mem):Prop where
 ret:e=.returned (.tuple #[])
 row:aA w' q cs T
 wds:oA w' p b m
 only:Only (λk=>k=q\/k=p\/k=b) w w'
theorem At3.fin{q p b:Nat}{w w':World}{cs cs':Array Value}{T:TypeId}{m m':Mem}(h:At3 q p b w w' cs T m)(e:cs=cs')(f:m=m'):Stepped q p b w w' (.returned (.tuple #[])) cs' T m':=by
 subst e f;exact⟨rfl,h.row,h.wds,h.only⟩
structure Turned (q:Nat) (w w':World) (e:Ending) (cs:Array Value) (T:TypeId):Prop where
 ret:e=.returned (.tuple #[])
 row:aA w' q cs T
 only:Only (λk=>k=q) w w'
theorem At3.turned{q p b:Nat}{w w' w'':World}{e:Ending}{cs cs':Array Value}{T:TypeId}{m:Mem}(h:At3 q p b w w' cs T m)(h2:Turned q w' w'' e cs' T):At3 q p b w w'' cs' T m:=
 ⟨h2.row,h.wds.only h2.only h.qp.symm h.qb.symm,h.only.trans h2.only (λ_ _ e=>.inl e),h.qp,h.qb,h.ls⟩
structure At1 (q:Nat) (w w':World) (cs:Array Value) (T:TypeId):Prop where
 row:aA w' q cs T
 only:Only (λk=>k=q) w w'
 ls:q<w.heap.size
section

variable {q:Nat}{w w' w'':World}{cs cs':Array Value}{T:TypeId}

theorem At1.start(h1:aA w q cs T):At1 q w w cs T:=⟨h1,Only.refl _ _,h1.lt⟩
theorem At1.below(h:At1 q w w' cs T)(hb:Below w'.heap.size w' w''):At1 q w w'' cs T:=⟨h.row.below hb,h.only.trans (Only.of_below (F:=λ_=>False) hb) (λ_ _ h=>h.elim),h.ls⟩
theorem At1.set(h:At1 q w w' cs T)(i:Nat)(v:Value):At1 q w (w'.setCell ⟨q,i,.none⟩ v) (cs.setIfInBounds i v) T:=⟨h.row.set i v,h.only.setCell (.inl rfl) _,h.ls⟩
theorem At1.drewN(h:At1 q w w' cs T)(n:Nat):At1 q w (w'.drewN n) cs T:=⟨h.row.drewN n,h.only.drewN n,h.ls⟩
theorem At1.turned{e:Ending}(h:At1 q w w' cs T)(h2:Turned q w' w'' e cs' T):At1 q w w'' cs' T:=⟨h2.row,h.only.trans h2.only (λ_ _ e=>e),h.ls⟩
theorem At1.free(h:At1 q w w' cs T)(i:Nat):w'.frozen? ⟨q,i,.none⟩=false:=KA h.row i
theorem At1.lt(h:At1 q w w' cs T):q<w'.heap.size:=h.row.lt
theorem At1.cell(h:At1 q w w' cs T)(i:Nat):w'.cell? ⟨q,i,.none⟩=cs[i]?:=h.row.cell i
theorem At1.fin(h:At1 q w w' cs T)(e:cs=cs'):Turned q w w' (.returned (.tuple #[])) cs' T:=by subst e;exact⟨rfl,h.row,h.only⟩
end

structure Fits (s:Sh) (m:Mem):Prop where
 may:mayB s.p s.c s.m=true
 len:(m.ws.length:Int)=xB s.p s.c s.m
theorem Fits.bd{s:Sh}{m:Mem}(h:Fits s m):1<=s.p/\s.p<=64/\1<=s.c/\s.c<=12/\0<=s.m/\s.m<=8:=JA.1 h.may
theorem Fits.dG{s:Sh}{m m':Mem}(h:Fits s m)(e:m'.ws.length=m.ws.length):Fits s m':=⟨h.may,by rw[e];exact h.len⟩
@[simp] theorem Mem.yfw (m : Mem) (c a : Int) : (m.load c a).ws.length=m.ws.length := rfl
@[simp] theorem Mem.yd4 (m : Mem) (c a x : Int) : (m.store c a x).ws.length=m.ws.length := by simp [Mem.store]
@[simp] theorem Mem.yfu (m : Mem) (c a x y : Int) : (m.swap c a x y).ws.length=m.ws.length := by unfold Mem.swap;dsimp only;split <;> simp
theorem Fits.load{s:Sh}{m:Mem}(h:Fits s m)(c a:Int):Fits s (m.load c a):=h.dG (by simp)
theorem Fits.store{s:Sh}{m:Mem}(h:Fits s m)(c a x:Int):Fits s (m.store c a x):=h.dG (by simp)
theorem Fits.swap{s:Sh}{m:Mem}(h:Fits s m)(c a x y:Int):Fits s (m.swap c a x y):=h.dG (by simp)
theorem Fits.total{s:Sh}{m:Mem}(h:Fits s m):(m.ws.length:Int)=s.c+s.p+s.p*16+s.c*s.m:=by rw[h.len];unfold xB;rw[jP h.may]
theorem Fits.magN{s:Sh}{m:Mem}(h:Fits s m):0<=s.c*s.m:=Int.mul_nonneg (by have:=h.bd;omega) (by have:=h.bd;omega)
theorem Fits.status{s:Sh}{m:Mem}(h:Fits s m){x:Int}(j:0<=x/\x<s.c):uA s.p s.c s.m x=x/\m.has x:=by
 have hb:=h.bd;have i:=h.total;have f:=h.magN;refine⟨by unfold uA;rw[jP ⟨h.may,BA.2 (by omega)⟩],?_⟩;unfold Mem.has;omega
theorem Fits.page{s:Sh}{m:Mem}(h:Fits s m){x:Int}(j:0<=x/\x<s.p):pA s.p s.c s.m x=s.c+x/\m.has (s.c+x):=by
 have hb:=h.bd;have i:=h.total;have f:=h.magN;refine⟨by unfold pA;rw[jP ⟨h.may,BA.2 (by omega)⟩],?_⟩;unfold Mem.has;omega
theorem Fits.slot{s:Sh}{m:Mem}(h:Fits s m){x i:Int}(l:0<=x/\x<s.p)(hi:0<=i/\i<16):bB s.p s.c s.m x i=s.c+s.p+x*16+i/\m.has (s.c+s.p+x*16+i):=by
 have hb:=h.bd;have j:=h.total;have f:=h.magN;refine⟨by unfold bB;rw[jP ⟨h.may,BA.2 (by omega),BA.2 (by omega)⟩],?_⟩;unfold Mem.has;omega
theorem Fits.mag{s:Sh}{m:Mem}(h:Fits s m){x i:Int}(f:0<=x/\x<s.c)(hi:0<=i/\i<s.m):kC s.p s.c s.m x i=s.c+s.p+s.p*16+x*s.m+i/\m.has (s.c+s.p+s.p*16+x*s.m+i):=by
 have hb:=h.bd;have j:=h.total;refine⟨by unfold kC;rw[jP ⟨h.may,BA.2 (by omega),BA.2 (by omega)⟩],?_⟩;have h1:0<=x*s.m:=Int.mul_nonneg f.1 (by omega);have h2:x*s.m+s.m<=s.c*s.m:=by
  have h3:(x+1)*s.m<=s.c*s.m:=Int.mul_le_mul_of_nonneg_right (by omega) (by omega);have h4:(x+1)*s.m=x*s.m+s.m:=by rw[Int.add_mul,Int.one_mul]
  omega
 unfold Mem.has;omega
def pgK (s:Sh) (a x:Int):Int:=if LA s.p s.c s.m a x=true then PA x else 0
def pgP (s:Sh) (a x:Int) (i:Nat):Int:=if LA s.p s.c s.m a x=true then nA x i else 0
theorem ZJ(s:Sh)(a x:Int)(w:World)(i:0<=x/\x<18446744073709551616):
  Calls Tryz.prog 111 #[.agg #[s.p,s.c,s.m],a,.int .u64 x] w λe w'=>e=.returned (.tuple #[.agg #[.int .i64 (pgK s a x),.int .i64 (pgP s a x 0),.int .i64 (pgP s a x 1)],.bool (LA s.p s.c s.m a x)])/\Below w.heap.size w w':=by
 refine(GU s.p s.c s.m a x w i.1 i.2).mono ?_;rintro e w' ⟨hb,rfl⟩;refine⟨?_,hb⟩;unfold pgK pgP;cases LA s.p s.c s.m a x<;>rfl
theorem sD{p c m x:Int}(h:0<=uA p c m x):mayB p c m=true/\0<=x/\x<c:=by
 unfold uA at h;by_cases f:mayB p c m=true/\wi x 0 (c-1)=true
 .have:=BA.1 f.2;exact⟨f.1,by omega,by omega⟩
 rw[jN f]at h;omega
theorem XE{p c m x:Int}(h:0<=pA p c m x):mayB p c m=true/\0<=x/\x<p:=by
 unfold pA at h;by_cases f:mayB p c m=true/\wi x 0 (p-1)=true
 .have:=BA.1 f.2;exact⟨f.1,by omega,by omega⟩
 rw[jN f]at h;omega
theorem UD{k:Int}(h:0<mA k):0<=k/\k<=3/\2<=mA k/\mA k<=16:=by
 unfold mA at*;split at h<;>(try split at h)<;>(try split at h)<;>(try split at h)<;>(try omega)<;>(subst_vars;decide)
theorem mK(k:Int)(xs:List Int)(f:0<=k/\k<=15)(i:xs.length<=3):0<=putV k xs/\putV k xs<18446744073709551616:=by
 unfold putV;split
 .rename_i h;have hb:=VW xs h;have h1:(256:Int)^xs.length<=16777216:=by
   have:xs.length=0\/xs.length=1\/xs.length=2\/xs.length=3:=by omega
   rcases this with e|e|e|e<;>rw[e]<;>decide
  omega
 omega
theorem sF(k a b:Int):0<=QA k a b/\QA k a b<18446744073709551616:=by
 unfold QA;split
 .omega
 rename_i h;simp only[bD,Bool.not_eq_true,Bool.or_eq_false_iff,decide_eq_false_iff_not]at h;exact mK _ _ (by omega) (by simp)
theorem IE(k a:Int):0<=VA k a/\VA k a<18446744073709551616:=by
 unfold VA;split
 .omega
 rename_i h;simp only[QE,Bool.not_eq_true,Bool.or_eq_false_iff,decide_eq_false_iff_not]at h;exact mK _ _ (by omega) (by simp)
theorem QH(k a:Int):0<=ZA k a/\ZA k a<18446744073709551616:=by
 unfold ZA;split
 .omega
 rename_i h;simp only[bK,Bool.not_eq_true,Bool.or_eq_false_iff,decide_eq_false_iff_not]at h;exact mK _ _ (by omega) (by simp)
inductive Jb where
 |mal (r:Rs) (c:Option Cm)
 |fre (f:Fe)
 |aga (r:Rr)
 |hei (a:Ad)
 deriving DecidableEq
def RC (c:Option Cm):Bool:=match c with|some x=>x.done|none=>false
def Jb.done:Jb->Bool
 |.mal r c=>r.done&&(!r.got.isSome||RC c)
 |.fre f=>f.done
 |.aga r=>r.done
 |.hei a=>a.done
def FF (s:Sh) (cl:Int) (r:Rs) (c:Option Cm):Option Cm:=match c,r.got with
 |none,some b=>some (zB s cl b)
 |c,_=>c
def Jb.step (s:Sh) (cl:Int) (m:Mem):Jb->Jb×Mem
 |.mal r c=>if r.done=false then (.mal (CB s r m).1 c,(CB s r m).2) else match FF s cl r c with
  |some x=>(.mal r (some (GB s x m).1),(GB s x m).2)
  |none=>(.mal r none,m)
 |.fre f=>(.fre (NB s f m).1,(NB s f m).2)
 |.aga r=>(.aga (LB s r m).1,(LB s r m).2)
 |.hei a=>(.hei (EA s a m).1,(EA s a m).2)
def Jb.gave:Jb->Bool
 |.mal _ _=>false
 |.fre f=>f.gave
 |.aga r=>(match r.free with|some f=>f.gave|none=>false)
 |.hei _=>false
def Jb.took:Jb->Option Blk
 |.mal r c=>if RC c=true then r.got else none
 |.fre _=>none
 |.aga r=>if r.done=true/\r.err=0 then (match r.res with|some x=>x.got|none=>none) else none
 |.hei _=>none
def Jb.err:Jb->Int
 |.mal r _=>if r.got.isSome=true then 0 else 3
 |.fre f=>if f.gave=true then 0 else 1
 |.aga r=>r.err
 |.hei a=>a.err
def ZB (s:Sh) (cl first kind a n:Int):Jb:=
 if kind=1 then .mal (mB s cl n first) none
 else if kind=2 then .fre (uB s cl a)
 else if kind=3 then .aga (pD s cl a n first)
 else .hei (qD s cl a)
theorem zzf(p:Addr)(w:World):
  CallsD Tryz.prog 144 #[.pointer (some p)] .returning w λe j w'=>e=.returned (.tuple #[])/\j=.returning/\w'=w:=by
 refine callsD_of_wpS Tryz.func144 rfl λi cs hu=>?_;apply wpS_seq;apply wpS_region;simp[wpOpsS,go_sem,recoverD,hu,Tryz.ntmps144,Exit.thenS];refine wpS_cond (t:=false) (by simp[Act.eval,Array.replicate]) ?_;simp only[Bool.false_eq_true,if_false];refine wpS_of_wp (wp_skip ?_);cases i;simp_all [bodyPostS,results,Tryz.results144]
theorem zyf(B1 B2:Nat)(w:World){Q:World->Prop}(h:Calls Tryz.prog 123 #[some B1,some B2] (w.alloc (.cells #[.bool false] 4)) λe w'=>e=.returned (.tuple #[])/\Q w'/\aA w' w.heap.size #[.bool false] 4):
  Calls Tryz.prog 122 #[.func (.func 123) #[] #[some B1,some B2]] w λe w'=>e=.returned (.bool true)/\∃Y,Q Y/\w'=Y.setCell ⟨w.heap.size,0,.none⟩ (.bool true):=by
 have G:∀(o:Fn) (first cap:Array Value) (w:World),(Instr.makeFunc o first cap).run Tryz.prog w=.ok (.func o first cap) w:=λ_ _ _ _=>rfl;replace h:=hd' h;go_enter_defers Tryz.func122,Tryz.ntmps122;have F:∀W:World,(binOp .eql 1 (.func (.func 123) #[] #[some B1,some B2]) .nilFunc).run Tryz.prog W=.ok (.bool false) W:=λW=>by kernel_rfl
 go_upto_region 1 with fail;generalize D:w.alloc (.cells #[.bool false] 4)=X at*;obtain⟨E,B,i⟩:=hidv w.heap.size;simp only[<-i]at h|-;clear i D;go_wp2_with (go_at_call 123;(with_reducible refine h.out.mono ?_);rintro r y ⟨rfl,C,l⟩;have z:=l.cell;have H:=KA l);refine leaves_cons (f:=144) (args:=#[some E]) (by simp) (by simp[go_sem]) ?_;refine(zzf ⟨E,0,.none⟩ _).mono ?_;rintro e I w'' ⟨rfl,rfl,rfl⟩;have n:=l.set 0 (.bool true);have c1:=ce (.bool true) (n.cell 0);rw[<-B];generalize s:y.setCell ⟨E,0,.none⟩ (.bool true)=Z at*;have j:∃Y,Q Y/\Z=Y.setCell ⟨E,0,.none⟩ (.bool true):=⟨y,C,s.symm⟩;clear s;simp[Leaves,settle,results,Tryz.results122,go_sem,c1];exact j
end Go.Proofs.YtkilokkopbajkaaGreat
