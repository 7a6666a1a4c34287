/- Texts bound together: MchQ MchV MchO MchN MchC GrdW. -/
import Derived.Defers

import Derived.Recover

import Derived.Test.YtedcnffebdpmmaaGreatBu5

set_option linter.all false
namespace Go.Proofs.YtedcnffebdpmmaaGreat

section
inductive Mc
 | tk (t:Tk)
 | sc (t:Sc)
 | pc (t:Pc)
 | sp (t:Sp)
 | bn (t:Bn)
 deriving DecidableEq
def Mc.done:Mc->Bool
 | .tk t=> t.done
 | .sc t=> t.done
 | .pc t=> t.done
 | .sp t=> t.done
 | .bn t=> t.done
def zbr (s:Sh):Mc->Mem->Mc × Mem
 | .tk t,m=> (.tk (zd2 s t m).1,(zd2 s t m).2)
 | .sc t,m=> (.sc (zed s t m).1,(zed s t m).2)
 | .pc t,m=> (.pc (ze7 s t m).1,(ze7 s t m).2)
 | .sp t,m=> (.sp (zdu s t m).1,(zdu s t m).2)
 | .bn t,m=> (.bn (ze6 s t m).1,(ze6 s t m).2)
structure Sk where
 c:Int
 k:Int
 first:Int
 now:Option Mc
 many:Int
 page:Int
 slot:Int
 found:Bool
 done:Bool
 deriving DecidableEq
def Sk.here (s:Sh) (t:Sk):Int:=(t.first + t.many) % s.p
def Sk.fin (t:Sk) (pg sl:Int):Sk:= { t with page:=pg,slot:=sl,found:=true,done:=true }
def Sk.turn (s:Sh) (t:Sk):Sk:= { t with now:=none,many:=t.many + 1,done:=decide (t.many + 1=s.p) }
def Sk.bind (s:Sh) (t:Sk) (p:Int):Sk:= { t with page:=p,now:=some (.bn (zfi s t.c p t.k)) }
def Sk.after (s:Sh) (t:Sk):Mc->Sk
 | .tk x=> if x.found=true then t.fin x.ep x.es else { t with now:=some (.sc (ziq s t.c t.k t.first)) }
 | .sc x=> if x.found=true then t.fin (x.page s) x.i else { t with now:=some (.pc (zlu s t.c t.first)) }
 | .pc x=> if x.found=true then t.bind s (x.page s) else { t with now:=none }
 | .sp x=> if x.held=true then t.bind s (t.here s) else t.turn s
 | .bn _=> t.fin t.page 0
def za5 (s:Sh):Nat->Sk->Sk
 | 0,t=> t
 | n + 1,t=> match t.now with
  | some x=> if t.done=false/\x.done=true then za5 s n (t.after s x) else t
  | none=> t
def zhb (s:Sh) (c k first:Int):Sk:=
 if 0<=zae s.p s.c s.m c/\0 < zah k/\0<=zak s.p s.c s.m first then za5 s 5 ⟨c,k,first,some (.tk (zg3 s c k)),0,0,0,false,false⟩
 else ⟨c,k,first,none,0,0,0,false,true⟩
def zbv (s:Sh) (t:Sk) (m:Mem):Sk × Mem:=
 if t.done=true then (t,m)
 else match t.now with
  | some x=> (za5 s 5 { t with now:=some (zbr s x m).1 },(zbr s x m).2)
  | none=>
   let pg:=zak s.p s.c s.m (t.here s)
   (if zal s.p s.c s.m (t.here s) (m.get pg)=true/\zbx (m.get pg)=2 then { t with now:=some (.sp (zfa s t.c (t.here s) (za2 (m.get pg) 0))) } else t.turn s,m.load t.c pg)
structure Rn where
 c:Int
 pages:Int
 head:Int
 at':Int
 i:Int
 next:Int
 strip:Option Sp
 found:Bool
 done:Bool
 deriving DecidableEq
def zf8 (s:Sh) (c n:Int):Rn:=⟨c,n,0,0,0,0,none,false, !(decide (0<=zae s.p s.c s.m c) && decide (1<=n) && decide (n<=8) && decide (n<=s.p))⟩
def Rn.written (t:Rn):Rn:=if t.i + 1=t.head + t.pages then { t with i:=t.i + 1,found:=true,done:=true } else { t with i:=t.i + 1 }
def Rn.own (t:Rn):Rn:=if t.at' + 1=t.head + t.pages then ({ t with at':=t.at' + 1,next:=5,i:=t.head }:Rn).written else { t with at':=t.at' + 1,next:=0 }
def Rn.gone (s:Sh) (t:Rn):Rn:=if t.head < t.i then t else { t with at':=t.at' + 1,head:=t.at' + 1,next:=0,done:=decide (s.p - t.pages < t.at' + 1) }
def Rn.miss (s:Sh) (t:Rn):Rn:=({ t with next:=4,i:=t.at' }:Rn).gone s
def zcr (s:Sh) (t:Rn) (m:Mem):Rn × Mem:=
 if t.done=true then (t,m)
 else
  let pg:=zak s.p s.c s.m t.at'
  if t.next=0 then
   (if zal s.p s.c s.m t.at' (m.get pg)=true/\zbx (m.get pg)=0 then { t with next:=1 }
    else if zal s.p s.c s.m t.at' (m.get pg)=true/\zbx (m.get pg)=2 then { t with next:=2,strip:=some (zfa s t.c t.at' (za2 (m.get pg) 0)) }
    else t.miss s,m.load t.c pg)
  else if t.next=1 then (if m.get pg=0 then t.own else t.miss s,m.swap t.c pg 0 (zf4 t.c))
  else if t.next=2 then
   match t.strip with
   | some x=>
    let r:=zdu s x m
    let t':Rn:= { t with strip:=some r.1 }
    (if r.1.held=true then { t' with next:=3,i:=0 } else if r.1.done=true then t'.miss s else t',r.2)
   | none=> (t,m)
  else if t.next=3 then (if t.i + 1=16 then ({ t with i:=t.i + 1 }:Rn).own else { t with i:=t.i + 1 },m.store t.c (zbk s.p s.c s.m t.at' t.i) 0)
  else if t.next=4 then (({ t with i:=t.i - 1 }:Rn).gone s,m.store t.c (zak s.p s.c s.m (t.i - 1)) (zb8 0 0 0))
  else (t.written,m.store t.c (zak s.p s.c s.m t.i) (zb8 4 t.head 0))
structure Blk where
 large:Bool
 page:Int
 slot:Int
 k:Int
 pages:Int
 deriving DecidableEq
def Blk.zero:Blk:=⟨false,0,0,0,0⟩
def Blk.at' (b:Blk):Int:=if b.large=true then b.page * 64 else b.page * 64 + b.slot * zbj b.k
def Blk.len (b:Blk):Int:=if b.large=true then b.pages * 64 else zbj b.k
def Blk.fits (s:Sh) (c:Int) (b:Blk):Bool:=
 if zae s.p s.c s.m c < 0\/zak s.p s.c s.m b.page < 0 then false
 else if b.large=true then decide (1<=b.pages) && decide (b.pages<=8) && decide (b.pages<=s.p - b.page)
 else decide (0<=b.slot) && decide (b.slot < zah b.k)
structure Rs where
 k:Int
 pages:Int
 seeker:Option Sk
 runner:Option Rn
 deriving DecidableEq
def zdh (s:Sh) (c n first:Int):Rs:=
 if wi n 1 32=true then ⟨zcn n,0,some (zhb s c (zcn n) first),none⟩
 else if wi n 33 512=true then ⟨0,runV n,none,some (zf8 s c (runV n))⟩
 else ⟨0,0,none,none⟩
def Rs.done (t:Rs):Bool:=match t.seeker,t.runner with
 | some x,_=> x.done
 | none,some x=> x.done
 | none,none=> true
def zb0 (s:Sh) (t:Rs) (m:Mem):Rs × Mem:=match t.seeker,t.runner with
 | some x,_=> ({ t with seeker:=some (zbv s x m).1 },(zbv s x m).2)
 | none,some x=> ({ t with runner:=some (zcr s x m).1 },(zcr s x m).2)
 | none,none=> (t,m)
def Rs.got (t:Rs):Option Blk:=match t.seeker,t.runner with
 | some x,_=> if x.found=true then some ⟨false,x.page,x.slot,t.k,0⟩ else none
 | none,some x=> if x.found=true then some ⟨true,x.head,0,0,t.pages⟩ else none
 | none,none=> none
structure Cm where
 c:Int
 b:Blk
 done:Bool
 deriving DecidableEq
def zc4 (s:Sh) (c:Int) (b:Blk):Cm:=⟨c,b, !b.fits s c⟩
def zb3 (s:Sh) (t:Cm) (m:Mem):Cm × Mem:=
 if t.done=true then (t,m)
 else ({ t with done:=true },if t.b.large=true then m.store t.c (zak s.p s.c s.m t.b.page) (zb8 3 t.b.pages 0) else m.store t.c (zbk s.p s.c s.m t.b.page t.b.slot) (zfl t.b.k))
structure Un where
 c:Int
 b:Blk
 i:Int
 done:Bool
 deriving DecidableEq
def zf1 (s:Sh) (c:Int) (b:Blk):Un:=⟨c,b,0, !b.fits s c⟩
def zcf (s:Sh) (t:Un) (m:Mem):Un × Mem:=
 if t.done=true then (t,m)
 else if t.b.large=false then ({ t with done:=true },m.store t.c (zbk s.p s.c s.m t.b.page t.b.slot) (zc8 t.b.k))
 else if t.i=t.b.pages - 1 then ({ t with done:=true },m.store t.c (zak s.p s.c s.m t.b.page) 0)
 else ({ t with i:=t.i + 1 },m.store t.c (zak s.p s.c s.m (t.b.page + t.i + 1)) 0)
structure Fe where
 c:Int
 a:Int
 page:Int
 slot:Int
 word:Int
 pk:Int
 pa:Int
 pb:Int
 next:Int
 i:Int
 put:Option Pu
 gave:Bool
 done:Bool
 deriving DecidableEq
def spB (s:Sh) (a:Int):Bool:=mayB s.p s.c s.m && wi a 0 (s.p * 64 - 1)
def zc2 (s:Sh) (c a:Int):Fe:=⟨c,a,if spB s a=true then a / 64 else 0,0,0,0,0,0,0,0,none,false, !spB s a || decide (zae s.p s.c s.m c < 0)⟩
def Fe.look (s:Sh) (t:Fe) (m:Mem):Fe × Mem:=
 let pg:=zak s.p s.c s.m t.page
 let x:=m.get pg
 let b:=zal s.p s.c s.m t.page x
 let off:=t.a % 64
 let t':Fe:= { t with word:=x,pk:=if b=true then zbx x else 0,pa:=if b=true then za2 x 0 else 0,pb:=if b=true then za2 x 1 else 0,next:=1 }
 (if b=true/\zbx x=3/\off=0 then t'
  else if b=true/\zbx x=2/\off % zbj (za2 x 0)=0 then { t' with slot:=off / zbj (za2 x 0) }
  else { t' with done:=true },m.load t.c pg)
def Fe.kept (t:Fe):Fe:=match t.put with
 | some x=> if x.put=true then { t with done:=true } else if x.done=true then { t with next:=3 } else t
 | none=> t
def Fe.claim (s:Sh) (t:Fe) (m:Mem):Fe × Mem:=
 if t.pk=3 then
  let pg:=zak s.p s.c s.m t.page
  let g:=decide (m.get pg=t.word)
  ({ t with gave:=g,next:=4,done:= !g },m.swap t.c pg t.word (zf4 t.c))
 else
  let at':=zbk s.p s.c s.m t.page t.slot
  let g:=decide (m.get at'=zfl t.pa)
  let t':Fe:= { t with gave:=g,next:=3 }
  let t'':Fe:=if t.pb=t.c then ({ t' with put:=some (zg5 s t.c t.page t.slot t.pa),next:=2 }:Fe).kept else t'
  ({ t'' with done:= !g },m.swap t.c at' (zfl t.pa) (wayW t.c))
def zca (s:Sh) (t:Fe) (m:Mem):Fe × Mem:=
 if t.done=true then (t,m)
 else if t.next=0 then t.look s m
 else if t.next=1 then t.claim s m
 else if t.next=2 then match t.put with
  | some x=> (({ t with put:=some (zd3 s x m).1 }:Fe).kept,(zd3 s x m).2)
  | none=> (t,m)
 else if t.next=3 then ({ t with done:=true },m.store t.c (zbk s.p s.c s.m t.page t.slot) (zc8 t.pa))
 else if t.i=t.pa - 1 then ({ t with done:=true },m.store t.c (zak s.p s.c s.m t.page) 0)
 else ({ t with i:=t.i + 1 },m.store t.c (zak s.p s.c s.m (t.page + t.i + 1)) 0)
structure Rr where
 c:Int
 res:Option Rs
 free:Option Fe
 undo:Option Un
 com:Option Cm
 err:Int
 done:Bool
 deriving DecidableEq
def Rr.settle (s:Sh) (t:Rr):Rr:=match t.res,t.free with
 | some r,some f=>
  if (match t.undo with | some u=> u.done | none=> false)=true then { t with err:=1,done:=true }
  else if (match t.com with | some u=> u.done | none=> false)=true then { t with err:=0,done:=true }
  else if r.done=false then t
  else match r.got with
   | none=> { t with err:=3,done:=true }
   | some b=> if t.undo.isSome=true\/t.com.isSome=true\/f.done=false then t else if f.gave=true then { t with com:=some (zc4 s t.c b) } else { t with undo:=some (zf1 s t.c b) }
 | _,_=> t
def zhh (s:Sh) (c a n first:Int):Rr:=
 if spB s a=true/\lenB n=true/\0<=zae s.p s.c s.m c then Rr.settle s ⟨c,some (zdh s c n first),some (zc2 s c a),none,none,0,false⟩
 else ⟨c,none,none,none,none,1,true⟩
def zb9 (s:Sh) (t:Rr) (m:Mem):Rr × Mem:=
 if t.done=true then (t,m)
 else match t.res,t.free with
  | some r,some f=>
   if r.done=false then (Rr.settle s { t with res:=some (zb0 s r m).1 },(zb0 s r m).2)
   else if f.done=false then (Rr.settle s { t with free:=some (zca s f m).1 },(zca s f m).2)
   else match t.undo,t.com with
    | some u,_=> (Rr.settle s { t with undo:=some (zcf s u m).1 },(zcf s u m).2)
    | none,some u=> (Rr.settle s { t with com:=some (zb3 s u m).1 },(zb3 s u m).2)
    | none,none=> (t,m)
  | _,_=> (t,m)
structure Ad where
 c:Int
 d:Int
 next:Int
 was:Int
 who:Int
 at':Int
 i:Int
 pk:Int
 pa:Int
 pb:Int
 err:Int
 done:Bool
 deriving DecidableEq
def Ad.fin (t:Ad) (e:Int):Ad:= { t with err:=e,done:=true }
def zix (s:Sh) (c d:Int):Ad:=
 let t:Ad:=⟨c,d,0,0,0,0,0,0,0,0,0,false⟩
 if zae s.p s.c s.m c < 0\/zae s.p s.c s.m d < 0\/c=d then t.fin 1 else t
def zjc (x:Int):Bool:=za8 (zbx x) (za2 x 0)==x
def zdc (x:Int):Int:=if zjc x=true then zbx x else 0
def zda (x:Int):Int:=if zjc x=true then za2 x 0 else 0
def Ad.turn (s:Sh) (t:Ad) (again next:Int):Ad:=
 let t':Ad:=if t.at' + 1=s.p then { t with at':=0,i:=0,next:=next } else { t with at':=t.at' + 1,next:=again }
 if t'.next=9/\s.m=0 then { t' with next:=10 } else t'
def Ad.own (s:Sh) (t:Ad) (a x:Int):Bool:=zal s.p s.c s.m a x && zbx x==1 && za2 x 0==t.d
def Ad.slot (s:Sh) (t:Ad):Ad:=if t.i + 1=zah t.pa then ({ t with i:=0,next:=11 }:Ad).turn s 10 13 else { t with i:=t.i + 1,next:=11 }
def Ad.keep (s:Sh) (t:Ad) (a x:Int):Ad:= { t with pk:=if zal s.p s.c s.m a x=true then zbx x else 0,pa:=if zal s.p s.c s.m a x=true then za2 x 0 else 0,pb:=if zal s.p s.c s.m a x=true then za2 x 1 else 0 }
def za0 (s:Sh) (t:Ad) (m:Mem):Ad × Mem:=
 if t.done=true then (t,m)
 else
  let pg:=zak s.p s.c s.m t.at'
  let sd:=zae s.p s.c s.m t.d
  let sl:=zbk s.p s.c s.m t.at' t.i
  if t.next=0 then
   let x:=m.get sd
   let t':Ad:= { t with was:=x }
   (if zdc x=2 then { t' with next:=2 }
    else if zdc x≠3 then t'.fin 5
    else if zae s.p s.c s.m (zda x) < 0 then t'.fin 4
    else { t' with who:=zda x,next:=1 },m.load t.c sd)
  else if t.next=1 then
   let so:=zae s.p s.c s.m t.who
   (if zdc (m.get so)=1 then ({ t with next:=2 }:Ad).fin 4 else { t with next:=2 },m.load t.c so)
  else if t.next=2 then (if m.get sd=t.was then { t with next:=3 } else ({ t with next:=3 }:Ad).fin 4,m.swap t.c sd t.was (za8 3 t.c))
  else if t.next=3 then
   (if zal s.p s.c s.m t.at' (m.get pg)=true/\zbx (m.get pg)=4 then { t.keep s t.at' (m.get pg) with next:=4 } else (t.keep s t.at' (m.get pg)).turn s 3 6,m.load t.c pg)
  else if t.next=4 then
   let ph:=zak s.p s.c s.m t.pa
   (if t.own s t.pa (m.get ph)=true then { t with next:=5 } else t.turn s 3 6,m.load t.c ph)
  else if t.next=5 then (t.turn s 3 6,m.store t.c pg 0)
  else if t.next=6 then (if t.own s t.at' (m.get pg)=true then { t with next:=7,i:=0 } else t.turn s 6 9,m.load t.c pg)
  else if t.next=7 then (if t.i + 1=16 then { t with i:=t.i + 1,next:=8 } else { t with i:=t.i + 1 },m.store t.c sl 0)
  else if t.next=8 then (t.turn s 6 9,m.store t.c pg 0)
  else if t.next=9 then (if t.i + 1=s.m then { t with i:=0,next:=10 } else { t with i:=t.i + 1 },m.store t.c (ze9 s.p s.c s.m t.d t.i) 0)
  else if t.next=10 then
   (if zal s.p s.c s.m t.at' (m.get pg)=true/\zbx (m.get pg)=2 then { t.keep s t.at' (m.get pg) with next:=11,i:=0 } else (t.keep s t.at' (m.get pg)).turn s 10 13,m.load t.c pg)
  else if t.next=11 then (if m.get sl=wayW t.d then { t with next:=12 } else t.slot s,m.load t.c sl)
  else if t.next=12 then (t.slot s,m.store t.c sl (zc8 t.pa))
  else (t.fin 0,m.store t.c sd (za8 4 0))
end

section

open Go.RowKit

def zaa (w:World) (q:Nat) (cs:Array Value) (T:TypeId):Prop:=w.heap[q]?=some (.cells cs T (0,0))
theorem Only.weak{F G:Nat->Prop}{w w':World}(h:Only F w w')(f:∀ k,F k->G k):Only G w w':=⟨h.os,h.tape,h.output,h.size,fun k j i=>h.block k j (fun e=>i (f k e))⟩
theorem zaa.lt{w:World}{q:Nat}{cs:Array Value}{T:TypeId}(h:zaa w q cs T):q<w.heap.size:=(Array.getElem?_eq_some_iff.1 h).1
theorem zaa.set{w:World}{q:Nat}{cs:Array Value}{T:TypeId}(h:zaa w q cs T)(i:Nat)(v:Value):zaa (w.setCell ⟨q,i,.none⟩ v) q (cs.setIfInBounds i v) T:=heap_setCell_same w q i _ _ v h
theorem zaa.other{w:World}{q:Nat}{cs:Array Value}{T:TypeId}(h:zaa w q cs T){k:Nat}(f:q≠k)(i:Nat)(v:Value):zaa (w.setCell ⟨k,i,.none⟩ v) q cs T:=(Below.heap_setCell w ⟨k,i,.none⟩ v q f).trans h
theorem zaa.cast{w:World}{q:Nat}{cs cs':Array Value}{T:TypeId}(h:zaa w q cs T)(e:cs=cs'):zaa w q cs' T:=e ▸ h
theorem zaa.below{w w':World}{q:Nat}{cs:Array Value}{T:TypeId}(h:zaa w q cs T)(hb:Below w.heap.size w w'):zaa w' q cs T:=(hb.block q h.lt).trans h
theorem zaa.only{F:Nat->Prop}{w w':World}{q:Nat}{cs:Array Value}{T:TypeId}(h:zaa w q cs T)(i:Only F w w')(f:¬ F q):zaa w' q cs T:=(i.block q h.lt f).trans h
theorem zaa.cell{w:World}{q:Nat}{cs:Array Value}{T:TypeId}(h:zaa w q cs T)(i:Nat):w.cell? ⟨q,i,.none⟩=cs[i]?:=zac h i
theorem zaa.drew{w:World}{q:Nat}{cs:Array Value}{T:TypeId}(h:zaa w q cs T):zaa w.drew q cs T:=h
theorem zaa.drewN{w:World}{q:Nat}{cs:Array Value}{T:TypeId}(h:zaa w q cs T)(n:Nat):zaa (w.drewN n) q cs T:=h
theorem zaa.alloc{w:World}{q:Nat}{cs:Array Value}{T:TypeId}(h:zaa w q cs T)(o:Obj):zaa (w.alloc o) q cs T:=(Below.heap_alloc w o q h.lt).trans h
theorem zaq.zfe{w w':World}{p b:Nat}{m:Mem}(h:zaq w p b m)(h1:w'.heap[p]?=w.heap[p]?)(h2:w'.heap[b]?=w.heap[b]?):zaq w' p b m:=⟨h.ne,h1.trans h.blk,h2.trans h.row,h.fit,h.few,h.stb⟩
theorem zaq.ltp{w:World}{p b:Nat}{m:Mem}(h:zaq w p b m):p<w.heap.size:=zaa.lt h.blk
theorem zaq.ltb{w:World}{p b:Nat}{m:Mem}(h:zaq w p b m):b<w.heap.size:=zaa.lt h.row
theorem zaq.other{w:World}{p b:Nat}{m:Mem}(h:zaq w p b m){q:Nat}(f:q≠p)(hb:q≠b)(i:Nat)(v:Value):zaq (w.setCell ⟨q,i,.none⟩ v) p b m:=
 h.zfe (Below.heap_setCell w ⟨q,i,.none⟩ v p (Ne.symm f)) (Below.heap_setCell w ⟨q,i,.none⟩ v b (Ne.symm hb))
theorem zaq.below{w w':World}{p b:Nat}{m:Mem}(h:zaq w p b m)(hb:Below w.heap.size w w'):zaq w' p b m:=h.zfe (hb.block p h.ltp) (hb.block b h.ltb)
theorem zaq.drew{w:World}{p b:Nat}{m:Mem}(h:zaq w p b m):zaq w.drew p b m:=h.zfe rfl rfl
theorem zaq.drewN{w:World}{p b:Nat}{m:Mem}(h:zaq w p b m)(n:Nat):zaq (w.drewN n) p b m:=h.zfe rfl rfl
theorem zaq.alloc{w:World}{p b:Nat}{m:Mem}(h:zaq w p b m)(o:Obj):zaq (w.alloc o) p b m:=h.zfe (Below.heap_alloc w o p h.ltp) (Below.heap_alloc w o b h.ltb)
theorem zaq.only{F:Nat->Prop}{w w':World}{p b:Nat}{m:Mem}(h:zaq w p b m)(f:Only F w w')(i:¬ F p)(hb:¬ F b):zaq w' p b m:=h.zfe (f.block p h.ltp i) (f.block b h.ltb hb)
theorem boxedB{w w':World}{o:Obj}(h:Below (w.alloc o).heap.size (w.alloc o) w'):Below w.heap.size w w':=zab (br.alloc lr _) h
def Born (w w':World) (e:Ending) (cs:Array Value) (T:TypeId):Prop:=∃ q,e= .returned (.pointer (some ⟨q,0,.none⟩))/\w.heap.size<=q/\zaa w' q cs T/\Below w.heap.size w w'
theorem Born.mk{w w':World}{cs:Array Value}{T:TypeId}{q:Nat}(h1:w.heap.size<=q)(h2:zaa w' q cs T)(h3:Below w.heap.size w w'):Born w w' (.returned (.pointer (some ⟨q,0,.none⟩))) cs T:=⟨q,rfl,h1,h2,h3⟩
theorem za6{w W X:World}{cs cs':Array Value}{T:TypeId}(hb:Below w.heap.size w W)(f:Below W.heap.size W X)(e:cs=cs'):Born w (X.alloc (.cells cs T)) (.returned (.pointer (some ⟨X.heap.size,0,.none⟩))) cs' T:=by
 subst e;have h1:=zab hb f;exact⟨_,rfl,h1.size,heap_alloc_new _ _,h1.trans (br.alloc h1.size _)⟩
structure At3 (q p b:Nat) (w w':World) (cs:Array Value) (T:TypeId) (m:Mem):Prop where
 row:zaa w' q cs T
 wds:zaq w' p b m
 only:Only (fun k=> k=q\/k=p\/k=b) w w'
 qp:q≠p
 qb:q≠b
 ls:q < w.heap.size/\p < w.heap.size/\b < w.heap.size
section

variable {q p b:Nat} {w w' w'':World} {cs cs':Array Value} {T:TypeId} {m m':Mem}

theorem At3.start(h1:zaa w q cs T)(h2:zaq w p b m)(h3:q≠p)(h4:q≠b):At3 q p b w w cs T m:=⟨h1,h2,Only.refl _ _,h3,h4,h1.lt,h2.ltp,h2.ltb⟩
theorem At3.below(h:At3 q p b w w' cs T m)(hb:Below w'.heap.size w' w''):At3 q p b w w'' cs T m:=⟨h.row.below hb,h.wds.below hb,h.only.trans (Only.of_below (F:=fun _=>False) hb) (fun _ _ h=>h.elim),h.qp,h.qb,h.ls⟩
theorem At3.set(h:At3 q p b w w' cs T m)(i:Nat)(v:Value):At3 q p b w (w'.setCell ⟨q,i,.none⟩ v) (cs.setIfInBounds i v) T m:=⟨h.row.set i v,h.wds.other h.qp h.qb i v,h.only.setCell (.inl (.inl rfl)) _,h.qp,h.qb,h.ls⟩
theorem At3.drew(h:At3 q p b w w' cs T m):At3 q p b w w'.drew cs T m:=⟨h.row.drew,h.wds.drew,h.only.drew,h.qp,h.qb,h.ls⟩
theorem At3.drewN(h:At3 q p b w w' cs T m)(n:Nat):At3 q p b w (w'.drewN n) cs T m:=⟨h.row.drewN n,h.wds.drewN n,h.only.drewN n,h.qp,h.qb,h.ls⟩
theorem At3.alloc(h:At3 q p b w w' cs T m)(o:Obj):At3 q p b w (w'.alloc o) cs T m:=⟨h.row.alloc o,h.wds.alloc o,h.only.alloc o,h.qp,h.qb,h.ls⟩
theorem At3.new(h:At3 q p b w w' cs T m){k:Nat}(f:w.heap.size<=k)(i:Nat)(v:Value):At3 q p b w (w'.setCell ⟨k,i,.none⟩ v) cs T m:=by
 have:=h.ls;exact⟨h.row.other (by omega) i v,h.wds.other (by omega) (by omega) i v,h.only.setCell (.inr f) _,h.qp,h.qb,h.ls⟩
theorem At3.load(h:At3 q p b w w' cs T m)(h1:zaq w'' p b m')(h2:Only (fun k=>k=p) w' w''):At3 q p b w w'' cs T m':=
 ⟨h.row.only h2 h.qp,h1,h.only.trans h2 (fun _ _ e=>.inr (.inl e)),h.qp,h.qb,h.ls⟩
theorem At3.access(h:At3 q p b w w' cs T m)(h1:zaq w'' p b m')(h2:Only (fun k=>k=p\/k=b) w' w''):At3 q p b w w'' cs T m':=
 ⟨h.row.only h2 (fun e=>e.elim h.qp h.qb),h1,h.only.trans h2 (fun _ _ e=>.inr e),h.qp,h.qb,h.ls⟩
theorem At3.far{B:Nat}(h:At3 q p b w w' cs T m)(j:B<=w'.heap.size)(h2:Only (fun k=>B<=k) w' w'')(h3:w.heap.size<=B:=by assumption):At3 q p b w w'' cs T m:=by
 have:=h.ls;exact⟨h.row.only h2 (by omega),h.wds.only h2 (by omega) (by omega),⟨h2.os.trans h.only.os,h2.tape.trans h.only.tape,h2.output.trans h.only.output,Nat.le_trans h.only.size h2.size,fun k i f=>(h2.block k (by have:=h.only.size;omega) (by omega)).trans (h.only.block k i f)⟩,h.qp,h.qb,h.ls⟩
theorem At3.free(h:At3 q p b w w' cs T m)(i:Nat):w'.frozen? ⟨q,i,.none⟩=false:=zax h.row i
theorem At3.lt(h:At3 q p b w w' cs T m):q<w'.heap.size:=h.row.lt
theorem At3.cell(h:At3 q p b w w' cs T m)(i:Nat):w'.cell? ⟨q,i,.none⟩=cs[i]?:=h.row.cell i
end

structure Stepped (q p b:Nat) (w w':World) (e:Ending) (cs:Array Value) (T:TypeId) (m:Mem):Prop where
 ret:e= .returned (.tuple #[])
 row:zaa w' q cs T
 wds:zaq w' p b m
 only:Only (fun k=> k=q\/k=p\/k=b) w w'
theorem At3.fin{q p b:Nat}{w w':World}{cs cs':Array Value}{T:TypeId}{m m':Mem}(h:At3 q p b w w' cs T m)(e:cs=cs')(f:m=m'):Stepped q p b w w' (.returned (.tuple #[])) cs' T m':=by
 subst e f;exact⟨rfl,h.row,h.wds,h.only⟩
structure Turned (q:Nat) (w w':World) (e:Ending) (cs:Array Value) (T:TypeId):Prop where
 ret:e= .returned (.tuple #[])
 row:zaa w' q cs T
 only:Only (fun k=> k=q) w w'
theorem At3.turned{q p b:Nat}{w w' w'':World}{e:Ending}{cs cs':Array Value}{T:TypeId}{m:Mem}(h:At3 q p b w w' cs T m)(h2:Turned q w' w'' e cs' T):At3 q p b w w'' cs' T m:=
 ⟨h2.row,h.wds.only h2.only h.qp.symm h.qb.symm,h.only.trans h2.only (fun _ _ e=>.inl e),h.qp,h.qb,h.ls⟩
structure At1 (q:Nat) (w w':World) (cs:Array Value) (T:TypeId):Prop where
 row:zaa w' q cs T
 only:Only (fun k=> k=q) w w'
 ls:q < w.heap.size
section

variable {q:Nat} {w w' w'':World} {cs cs':Array Value} {T:TypeId}

theorem At1.start(h1:zaa w q cs T):At1 q w w cs T:=⟨h1,Only.refl _ _,h1.lt⟩
theorem At1.below(h:At1 q w w' cs T)(hb:Below w'.heap.size w' w''):At1 q w w'' cs T:=⟨h.row.below hb,h.only.trans (Only.of_below (F:=fun _=>False) hb) (fun _ _ h=>h.elim),h.ls⟩
theorem At1.set(h:At1 q w w' cs T)(i:Nat)(v:Value):At1 q w (w'.setCell ⟨q,i,.none⟩ v) (cs.setIfInBounds i v) T:=⟨h.row.set i v,h.only.setCell (.inl rfl) _,h.ls⟩
theorem At1.drewN(h:At1 q w w' cs T)(n:Nat):At1 q w (w'.drewN n) cs T:=⟨h.row.drewN n,h.only.drewN n,h.ls⟩
theorem At1.turned{e:Ending}(h:At1 q w w' cs T)(h2:Turned q w' w'' e cs' T):At1 q w w'' cs' T:=⟨h2.row,h.only.trans h2.only (fun _ _ e=>e),h.ls⟩
theorem At1.free(h:At1 q w w' cs T)(i:Nat):w'.frozen? ⟨q,i,.none⟩=false:=zax h.row i
theorem At1.lt(h:At1 q w w' cs T):q<w'.heap.size:=h.row.lt
theorem At1.cell(h:At1 q w w' cs T)(i:Nat):w'.cell? ⟨q,i,.none⟩=cs[i]?:=h.row.cell i
theorem At1.fin(h:At1 q w w' cs T)(e:cs=cs'):Turned q w w' (.returned (.tuple #[])) cs' T:=by subst e;exact⟨rfl,h.row,h.only⟩
end

structure Fits (s:Sh) (m:Mem):Prop where
 may:mayB s.p s.c s.m=true
 len:(m.ws.length:Int)=zb6 s.p s.c s.m
theorem Fits.bd{s:Sh}{m:Mem}(h:Fits s m):1<=s.p/\s.p<=64/\1<=s.c/\s.c<=12/\0<=s.m/\s.m<=8:=zar.1 h.may
theorem Fits.zh1{s:Sh}{m m':Mem}(h:Fits s m)(e:m'.ws.length=m.ws.length):Fits s m':=⟨h.may,by rw[e];exact h.len⟩
@[simp] theorem Mem.yfw (m : Mem) (c a : Int) : (m.load c a).ws.length = m.ws.length := rfl
@[simp] theorem Mem.yd4 (m : Mem) (c a x : Int) : (m.store c a x).ws.length = m.ws.length := by simp [Mem.store]
@[simp] theorem Mem.yfu (m : Mem) (c a x y : Int) : (m.swap c a x y).ws.length = m.ws.length := by unfold Mem.swap; dsimp only; split <;> simp
theorem Fits.load{s:Sh}{m:Mem}(h:Fits s m)(c a:Int):Fits s (m.load c a):=h.zh1 (by simp)
theorem Fits.store{s:Sh}{m:Mem}(h:Fits s m)(c a x:Int):Fits s (m.store c a x):=h.zh1 (by simp)
theorem Fits.swap{s:Sh}{m:Mem}(h:Fits s m)(c a x y:Int):Fits s (m.swap c a x y):=h.zh1 (by simp)
theorem Fits.total{s:Sh}{m:Mem}(h:Fits s m):(m.ws.length:Int)=s.c+s.p+s.p*16+s.c*s.m:=by rw[h.len];unfold zb6;rw[if_pos h.may]
theorem Fits.magN{s:Sh}{m:Mem}(h:Fits s m):0<=s.c*s.m:=Int.mul_nonneg (by have:=h.bd;omega) (by have:=h.bd;omega)
theorem Fits.status{s:Sh}{m:Mem}(h:Fits s m){x:Int}(j:0<=x/\x<s.c):zae s.p s.c s.m x=x/\m.has x:=by
 have hb:=h.bd;have i:=h.total;have f:=h.magN;refine⟨by unfold zae;rw[if_pos ⟨h.may,zbc.2 (by omega)⟩],?_⟩;unfold Mem.has;omega
theorem Fits.page{s:Sh}{m:Mem}(h:Fits s m){x:Int}(j:0<=x/\x<s.p):zak s.p s.c s.m x=s.c+x/\m.has (s.c+x):=by
 have hb:=h.bd;have i:=h.total;have f:=h.magN;refine⟨by unfold zak;rw[if_pos ⟨h.may,zbc.2 (by omega)⟩],?_⟩;unfold Mem.has;omega
theorem Fits.slot{s:Sh}{m:Mem}(h:Fits s m){x i:Int}(l:0<=x/\x<s.p)(hi:0<=i/\i<16):zbk s.p s.c s.m x i=s.c+s.p+x*16+i/\m.has (s.c+s.p+x*16+i):=by
 have hb:=h.bd;have j:=h.total;have f:=h.magN;refine⟨by unfold zbk;rw[if_pos ⟨h.may,zbc.2 (by omega),zbc.2 (by omega)⟩],?_⟩;unfold Mem.has;omega
theorem Fits.mag{s:Sh}{m:Mem}(h:Fits s m){x i:Int}(f:0<=x/\x<s.c)(hi:0<=i/\i<s.m):ze9 s.p s.c s.m x i=s.c+s.p+s.p*16+x*s.m+i/\m.has (s.c+s.p+s.p*16+x*s.m+i):=by
 have hb:=h.bd;have j:=h.total;refine⟨by unfold ze9;rw[if_pos ⟨h.may,zbc.2 (by omega),zbc.2 (by omega)⟩],?_⟩;have h1:0<=x*s.m:=Int.mul_nonneg f.1 (by omega);have h2:x*s.m+s.m<=s.c*s.m:=by
  have h3:(x+1)*s.m<=s.c*s.m:=Int.mul_le_mul_of_nonneg_right (by omega) (by omega);have h4:(x+1)*s.m=x*s.m+s.m:=by rw[Int.add_mul,Int.one_mul]
  omega
 unfold Mem.has;omega
def pgK (s:Sh) (a x:Int):Int:=if zal s.p s.c s.m a x=true then zbx x else 0
def pgP (s:Sh) (a x:Int) (i:Nat):Int:=if zal s.p s.c s.m a x=true then za2 x i else 0
theorem zh3(s:Sh)(a x:Int)(w:World)(i:0<=x/\x<18446744073709551616):
  Calls Tryz.prog 64 #[.agg #[s.p,s.c,s.m],a,.int .u64 x] w fun e w'=>e= .returned (.tuple #[.agg #[.int .i64 (pgK s a x),.int .i64 (pgP s a x 0),.int .i64 (pgP s a x 1)],.bool (zal s.p s.c s.m a x)])/\Below w.heap.size w w':=by
 refine(zk2 s.p s.c s.m a x w i.1 i.2).mono ?_;rintro e w' ⟨hb,rfl⟩;refine⟨?_,hb⟩;unfold pgK pgP;cases zal s.p s.c s.m a x<;>rfl
theorem zbe{p c m x:Int}(h:0<=zae p c m x):mayB p c m=true/\0<=x/\x<c:=by
 unfold zae at h;by_cases f:mayB p c m=true/\wi x 0 (c-1)=true
 ·have:=zbc.1 f.2;exact⟨f.1,by omega,by omega⟩
 rw[if_neg f]at h;omega
theorem zcs{p c m x:Int}(h:0<=zak p c m x):mayB p c m=true/\0<=x/\x<p:=by
 unfold zak at h;by_cases f:mayB p c m=true/\wi x 0 (p-1)=true
 ·have:=zbc.1 f.2;exact⟨f.1,by omega,by omega⟩
 rw[if_neg f]at h;omega
theorem zb4{k:Int}(h:0<zah k):0<=k/\k<=3/\2<=zah k/\zah k<=16:=by
 unfold zah at *;split at h<;>(try split at h)<;>(try split at h)<;>(try split at h)<;>(try omega)<;>(subst_vars;decide)
theorem zj3(k:Int)(xs:List Int)(f:0<=k/\k<=15)(i:xs.length<=3):0<=putV k xs/\putV k xs<18446744073709551616:=by
 unfold putV;split
 ·rename_i h;have hb:=zsp xs h;have h1:(256:Int)^xs.length<=16777216:=by
   have:xs.length=0\/xs.length=1\/xs.length=2\/xs.length=3:=by omega
   rcases this with e|e|e|e<;>rw[e]<;>decide
  omega
 omega
theorem zc0(k a b:Int):0<=zb8 k a b/\zb8 k a b<18446744073709551616:=by
 unfold zb8;split
 ·omega
 rename_i h;simp only[zfm,Bool.not_eq_true,Bool.or_eq_false_iff,decide_eq_false_iff_not]at h;exact zj3 _ _ (by omega) (by simp)
theorem zch(k a:Int):0<=zc3 k a/\zc3 k a<18446744073709551616:=by
 unfold zc3;split
 ·omega
 rename_i h;simp only[zgy,Bool.not_eq_true,Bool.or_eq_false_iff,decide_eq_false_iff_not]at h;exact zj3 _ _ (by omega) (by simp)
theorem zdz(k a:Int):0<=za8 k a/\za8 k a<18446744073709551616:=by
 unfold za8;split
 ·omega
 rename_i h;simp only[zho,Bool.not_eq_true,Bool.or_eq_false_iff,decide_eq_false_iff_not]at h;exact zj3 _ _ (by omega) (by simp)
end

section

theorem zea{p c m a x:Int}:zal p c m a x=true↔zb8 (zbx x) (za2 x 0) (za2 x 1)=x/\0<=zak p c m a/\zkb p c a (zbx x) (za2 x 0) (za2 x 1)=true:=by
 unfold zal;simp only[Bool.and_eq_true,beq_iff_eq,decide_eq_true_eq];exact and_assoc
theorem zdq{p c m a x:Int}(h:zal p c m a x=true)(f:zbx x=2):(0<=za2 x 0/\za2 x 0<=3)/\(0<=za2 x 1/\za2 x 1<c)/\0<zah (za2 x 0):=by
 obtain⟨_,_,h3⟩:=zea.1 h;unfold zkb at h3;rw[if_neg (by omega),if_pos f]at h3;simp only[Bool.and_eq_true,decide_eq_true_eq]at h3;have h1:=zgv x 0;have h2:=zgv x 1;refine⟨by omega,by omega,?_⟩;have:za2 x 0=0\/za2 x 0=1\/za2 x 0=2\/za2 x 0=3:=by omega
 rcases this with e|e|e|e<;>rw[e]<;>decide
theorem zn1{p c m a x:Int}(h:zal p c m a x=true)(f:zbx x=3):1<=za2 x 0/\za2 x 0<=8/\za2 x 0<=p-a:=by
 obtain⟨_,_,h3⟩:=zea.1 h;unfold zkb at h3;rw[if_neg (by omega),if_neg (by omega),if_pos f]at h3;simp only[Bool.and_eq_true,decide_eq_true_eq]at h3;omega
theorem zpu{p c m a x:Int}(h:zal p c m a x=true)(f:zbx x=4):0<=za2 x 0/\za2 x 0<a/\a-8<za2 x 0:=by
 obtain⟨_,_,h3⟩:=zea.1 h;unfold zkb at h3;rw[if_neg (by omega),if_neg (by omega),if_neg (by omega),if_pos f]at h3;simp only[Bool.and_eq_true,decide_eq_true_eq]at h3;have h1:=zgv x 0;omega
theorem zsv{p c m x:Int}(h:zbi p c m x=true):(0<=za2 x 0/\za2 x 0<p)/\(0<=za2 x 1/\za2 x 1<zah (za2 x 2)):=by
 unfold zbi at h;simp only[Bool.and_eq_true,beq_iff_eq,decide_eq_true_eq]at h;have h1:=zcs h.1.2;have h2:=zgv x 1;omega
theorem zdg{k:Int}(h:0<zah k):zah k=16\/zah k=8\/zah k=4\/zah k=2:=by
 unfold zah at *;split<;>(try split)<;>(try split)<;>(try split)<;>simp_all
structure tkOk (s:Sh) (t:Tk):Prop where
 cl:t.done=false->(0<=t.c/\t.c < s.c)/\(0<=t.i/\t.i < s.m)
 en:t.hit=true->(0<=t.ep/\t.ep < s.p)/\(0<=t.es/\t.es < zah t.ek)/\t.ek=t.k
 fd:t.found=true->t.hit=true/\t.done=true
theorem zl1(s:Sh)(c k:Int):tkOk s (zg3 s c k):=by
 refine⟨fun h=>?_,fun h=>(by cases h),fun h=>(by cases h)⟩;simp only[zg3,Bool.or_eq_false_iff,Bool.not_eq_false',Bool.and_eq_true,decide_eq_true_eq,beq_eq_false_iff_ne]at h ⊢;obtain⟨⟨h1,h2⟩,h3⟩:=h;have h4:=zbe h1;have f:=zar.1 h4.1;omega
theorem z1c{s:Sh}{t:Tk}(m:Mem)(h:tkOk s t):tkOk s (zd2 s t m).1:=by
 obtain⟨h1,h2,h3⟩:=h;unfold zd2;dsimp only;split
 ·exact⟨h1,h2,h3⟩
 rename_i hd;have hd:t.done=false:=by simpa using hd
 have hc:=h1 hd;split
 ·rename_i f;exact⟨fun e=>(by cases e),fun _=>h2 f,fun _=>⟨f,rfl⟩⟩
 split
 ·rename_i j;have:=zsv j.1;exact⟨fun _=>hc,fun _=>⟨this.1,this.2,j.2⟩,fun e=>by have:=(h3 e).2;rw[hd]at this;cases this⟩
 rename_i f _;refine⟨fun e=>?_,fun e=>absurd e f,fun e=>absurd (h3 e).1 f⟩;have:¬ t.i+1=s.m:=by simpa using e
 dsimp only;omega
structure puOk (s:Sh) (t:Pu):Prop where
 cl:t.done=false->(0<=t.c/\t.c < s.c)/\(0<=t.i/\t.i < s.m)
theorem z4n(s:Sh)(c pg sl k:Int):puOk s (zg5 s c pg sl k):=by
 refine⟨fun h=>?_⟩;simp only[zg5,Bool.or_eq_false_iff,Bool.not_eq_false',Bool.and_eq_true,decide_eq_true_eq,beq_eq_false_iff_ne]at h ⊢;obtain⟨⟨⟨⟨⟨h1,h2⟩,i⟩,j⟩,l⟩,h3⟩:=h;have h4:=zbe h1;have f:=zar.1 h4.1;omega
theorem zq5{s:Sh}{t:Pu}(m:Mem)(h:puOk s t):puOk s (zd3 s t m).1:=by
 obtain⟨h1⟩:=h;unfold zd3;dsimp only;split
 ·exact⟨h1⟩
 rename_i hd;have hd:t.done=false:=by simpa using hd
 have hc:=h1 hd;split
 ·exact⟨fun e=>(by cases e)⟩
 split
 ·exact⟨fun _=>hc⟩
 refine⟨fun e=>?_⟩;have:¬ t.i+1=s.m:=by simpa using e
 dsimp only;omega
structure scOk (s:Sh) (t:Sc):Prop where
 cl:t.done=false->(0<=t.c/\t.c < s.c)/\0 < zah t.k/\(0<=t.first/\t.first < s.p)/\(0<=t.many/\t.many < s.p)/\(0<=t.i/\t.i < zah t.k)/\(0<=t.next/\t.next<=2)
 fd:t.found=true->t.done=true/\(0<=t.first/\t.first < s.p)/\(0<=t.many/\t.many < s.p)/\(0<=t.i/\t.i < zah t.k)
theorem z4p(s:Sh)(c k f:Int):scOk s (ziq s c k f):=by
 refine⟨fun h=>?_,fun h=>(by cases h)⟩;simp only[ziq,Bool.not_eq_false',Bool.and_eq_true,decide_eq_true_eq]at h ⊢;obtain⟨⟨h1,h2⟩,h3⟩:=h;have h4:=zbe h1;have i:=zcs h3;omega
theorem zrd{s:Sh}{t:Sc}(f:t.found=false)(h:(0<=t.c/\t.c<s.c)/\0<zah t.k/\(0<=t.first/\t.first<s.p)/\(0<=t.many/\t.many<s.p)):scOk s (t.turn s):=by
 refine⟨fun e=>?_,fun e=>?_⟩
 ·have:¬ t.many+1=s.p:=by simpa[Sc.turn] using e
  simp only[Sc.turn];omega
 simp only[Sc.turn]at e;rw[f]at e;cases e
theorem z0q{s:Sh}{t:Sc}(f:t.found=false)(h:(0<=t.c/\t.c<s.c)/\0<zah t.k/\(0<=t.first/\t.first<s.p)/\(0<=t.many/\t.many<s.p)/\(0<=t.i/\t.i<zah t.k)):scOk s (t.miss s):=by
 unfold Sc.miss;split
 ·exact zrd f ⟨h.1,h.2.1,h.2.2.1,h.2.2.2.1⟩
 refine⟨fun _=>?_,fun e=>?_⟩
 ·dsimp only;omega
 dsimp only at e;rw[f]at e;cases e
theorem zb7{f d:Bool}{Q:Prop}(h:f=true->d=true/\Q)(hd:d=false):f=false:=by
 cases f
 ·rfl
 have:=(h rfl).1;rw[hd]at this;cases this
theorem z2k{s:Sh}{t:Sc}(m:Mem)(h:scOk s t):scOk s (zed s t m).1:=by
 have i:=h.cl;unfold zed;dsimp only;split
 ·exact h
 rename_i hd;have hd:t.done=false:=by simpa using hd
 have hc:=i hd;have f:t.found=false:=zb7 h.fd hd;have l:scOk s (t.turn s):=zrd f ⟨hc.1,hc.2.1,hc.2.2.1,hc.2.2.2.1⟩;have j:scOk s (t.miss s):=z0q f ⟨hc.1,hc.2.1,hc.2.2.1,hc.2.2.2.1,hc.2.2.2.2.1⟩;split
 ·dsimp only;split
  ·refine⟨fun _=>?_,fun e=>?_⟩
   ·dsimp only;omega
   dsimp only at e;rw[f]at e;cases e
  exact l
 split
 ·dsimp only;split
  ·refine⟨fun _=>?_,fun e=>?_⟩
   ·dsimp only;omega
   dsimp only at e;rw[f]at e;cases e
  exact j
 dsimp only;split
 ·exact⟨fun e=>(by cases e),fun _=>⟨rfl,hc.2.2.1,hc.2.2.2.1,hc.2.2.2.2.1⟩⟩
 exact j
structure pcOk (s:Sh) (t:Pc):Prop where
 cl:t.done=false->(0<=t.c/\t.c < s.c)/\(0<=t.first/\t.first < s.p)/\(0<=t.many/\t.many < s.p)
 fd:t.found=true->t.done=true/\(0<=t.first/\t.first < s.p)/\(0<=t.many/\t.many < s.p)
theorem z5p(s:Sh)(c f:Int):pcOk s (zlu s c f):=by
 refine⟨fun h=>?_,fun h=>(by cases h)⟩;simp only[zlu,Bool.or_eq_false_iff,decide_eq_false_iff_not]at h ⊢;obtain⟨h1,h3⟩:=h;have h4:=zbe (by omega:0<=zae s.p s.c s.m c);have i:=zcs (by omega:0<=zak s.p s.c s.m f);omega
theorem z3v{s:Sh}{t:Pc}(m:Mem)(h:pcOk s t):pcOk s (ze7 s t m).1:=by
 have i:=h.cl;unfold ze7;dsimp only;split
 ·exact h
 rename_i hd;have hd:t.done=false:=by simpa using hd
 have hc:=i hd;have j:t.found=false:=zb7 h.fd hd;have f:pcOk s {t with empty:=false,many:=t.many+1,done:=decide (t.many+1=s.p)}:=by
  refine⟨fun e=>?_,fun e=>?_⟩
  ·have:¬ t.many+1=s.p:=by simpa using e
   dsimp only;omega
  dsimp only at e;rw[j]at e;cases e
 split
 ·dsimp only;split
  ·refine⟨fun _=>hc,fun e=>?_⟩;dsimp only at e;rw[j]at e;cases e
  exact f
 dsimp only;split
 ·exact⟨fun e=>(by cases e),fun _=>⟨rfl,hc.2⟩⟩
 exact f
structure spOk (s:Sh) (t:Sp):Prop where
 cl:t.done=false->(0<=t.c/\t.c < s.c)/\(0<=t.page/\t.page < s.p)/\0 < zah t.k/\(0<=t.i/\t.i<=zah t.k)/\(t.back=true->0 < t.i)
 fd:t.held=true->t.done=true
theorem zwx(s:Sh)(c pg k:Int):spOk s (zfa s c pg k):=by
 refine⟨fun h=>?_,fun h=>(by cases h)⟩;simp only[zfa,Bool.not_eq_false',Bool.and_eq_true,decide_eq_true_eq]at h ⊢;obtain⟨⟨h1,h2⟩,h3⟩:=h;have h4:=zbe h1;have f:=zcs h2;refine⟨by omega,by omega,by omega,by omega,fun e=>(by cases e)⟩
theorem znr{s:Sh}{t:Sp}(m:Mem)(h:spOk s t):spOk s (zdu s t m).1:=by
 have f:=h.cl;unfold zdu;split
 ·exact h
 rename_i hd;have hd:t.done=false:=by simpa using hd
 have hc:=f hd;have j:t.held=false:=by
  rcases Bool.eq_false_or_eq_true t.held with e|e
  ·have:=h.fd e;rw[hd]at this;cases this
  exact e
 split
 ·rename_i hb;refine⟨fun e=>?_,fun e=>?_⟩
  ·have:¬ t.i-1=0:=by simpa using e
   have:=hc.2.2.2.2 hb;refine⟨hc.1,hc.2.1,hc.2.2.1,by dsimp only;omega,fun _=>by dsimp only;omega⟩
  dsimp only at e;rw[j]at e;cases e
 rename_i hb;split
 ·exact⟨fun e=>(by cases e),fun _=>rfl⟩
 rename_i hi;dsimp only;split
 ·refine⟨fun _=>⟨hc.1,hc.2.1,hc.2.2.1,by dsimp only;omega,fun e=>absurd e hb⟩,fun e=>?_⟩;dsimp only at e;rw[j]at e;cases e
 refine⟨fun e=>?_,fun e=>?_⟩
 ·have:¬ t.i=0:=by simpa using e
  exact⟨hc.1,hc.2.1,hc.2.2.1,hc.2.2.2.1,fun _=>by dsimp only;omega⟩
 dsimp only at e;rw[j]at e;cases e
structure bnOk (s:Sh) (t:Bn):Prop where
 cl:t.done=false->(0<=t.c/\t.c < s.c)/\(0<=t.page/\t.page < s.p)/\0 < zah t.k/\(0<=t.i/\t.i<=16)/\(t.bound=true->0 < t.i/\t.i < zah t.k)
theorem z7r(s:Sh)(c pg k:Int):bnOk s (zfi s c pg k):=by
 refine⟨fun h=>?_⟩;simp only[zfi,Bool.not_eq_false',Bool.and_eq_true,decide_eq_true_eq]at h ⊢;obtain⟨⟨h1,h2⟩,h3⟩:=h;have h4:=zbe h1;have f:=zcs h2;refine⟨by omega,by omega,by omega,by omega,fun e=>(by cases e)⟩
theorem z3k{s:Sh}{t:Bn}(m:Mem)(h:bnOk s t):bnOk s (ze6 s t m).1:=by
 have f:=h.cl;unfold ze6;split
 ·exact h
 rename_i hd;have hd:t.done=false:=by simpa using hd
 have hc:=f hd;split
 ·rename_i hb;refine⟨fun e=>?_⟩;have:¬ t.i-1=0:=by simpa using e
  have:=hc.2.2.2.2 hb;refine⟨hc.1,hc.2.1,hc.2.2.1,by dsimp only;omega,fun _=>by dsimp only;omega⟩
 rename_i hb;split
 ·refine⟨fun _=>⟨hc.1,hc.2.1,hc.2.2.1,?_,fun _=>?_⟩⟩<;>have:=zdg hc.2.2.1<;>dsimp only<;>omega
 exact⟨fun _=>⟨hc.1,hc.2.1,hc.2.2.1,by dsimp only;omega,fun e=>absurd e hb⟩⟩
def mcOk (s:Sh):Mc->Prop
 | .tk t=> tkOk s t
 | .sc t=> scOk s t
 | .pc t=> pcOk s t
 | .sp t=> spOk s t
 | .bn t=> bnOk s t
theorem zjq{s:Sh}{x:Mc}(m:Mem)(h:mcOk s x):mcOk s (zbr s x m).1:=by
 cases x with
 |tk t=>exact z1c m h
 |sc t=>exact z2k m h
 |pc t=>exact z3v m h
 |sp t=>exact znr m h
 |bn t=>exact z3k m h
def zxi (s:Sh) (t:Sk):Mc->Prop
 | .tk x=> x.k=t.k
 | .sc x=> x.k=t.k
 | .pc _=> True
 | .sp _=> True
 | .bn _=> 0<=t.page/\t.page < s.p
theorem z4s(s:Sh)(t:Tk)(m:Mem):(zd2 s t m).1.k=t.k:=by unfold zd2;dsimp only;split<;>(try split)<;>(try split)<;>rfl
theorem z6f(s:Sh)(t:Sc)(m:Mem):(zed s t m).1.k=t.k:=by
 have h1:(t.miss s).k=t.k:=by unfold Sc.miss;split<;>rfl
 unfold zed;dsimp only;split
 ·rfl
 split
 ·dsimp only;split<;>rfl
 split
 ·dsimp only;split<;>first|rfl|exact h1
 dsimp only;split<;>first|rfl|exact h1
theorem zg1{s:Sh}{t:Sk}{x:Mc}(m:Mem)(h:zxi s t x):zxi s t (zbr s x m).1:=by
 cases x with
 |tk y=>exact(z4s s y m).trans h
 |sc y=>exact(z6f s y m).trans h
 |pc y=>trivial
 |sp y=>trivial
 |bn y=>exact h
structure skOk (s:Sh) (t:Sk):Prop where
 cl:t.done=false->(0<=t.c/\t.c < s.c)/\0 < zah t.k/\(0<=t.first/\t.first < s.p)/\(0<=t.many/\t.many < s.p)/\(∀ x,t.now=some x->mcOk s x/\zxi s t x)
 fd:t.found=true->t.done=true/\(0<=t.page/\t.page < s.p)/\(0<=t.slot/\t.slot < zah t.k)
theorem zqd{s:Sh}{t:Sk}{pg sl:Int}(h1:0<=pg/\pg<s.p)(h2:0<=sl/\sl<zah t.k):skOk s (t.fin pg sl):=⟨fun e=>(by cases e),fun _=>⟨rfl,h1,h2⟩⟩
theorem zrr{s:Sh}{t:Sk}{pg:Int}(h:skOk s t)(hd:t.done=false)(h1:0<=pg/\pg<s.p):skOk s (t.bind s pg):=by
 obtain⟨c1,c2,c3,c4,c5⟩:=h.cl hd;refine⟨fun _=>⟨c1,c2,c3,c4,fun x f=>?_⟩,fun e=>?_⟩
 ·simp only[Sk.bind,Option.some.injEq]at f;subst f;exact⟨z7r _ _ _ _,h1⟩
 have:=zb7 h.fd hd;simp only[Sk.bind]at e;rw[this]at e;cases e
theorem zsb{s:Sh}{t:Sk}(h:skOk s t)(hd:t.done=false):skOk s (t.turn s):=by
 obtain⟨c1,c2,c3,c4,c5⟩:=h.cl hd;refine⟨fun e=>⟨c1,c2,c3,?_,fun x f=>(by cases f)⟩,fun e=>?_⟩
 ·have:¬ t.many+1=s.p:=by simpa[Sk.turn] using e
  simp only[Sk.turn];omega
 have:=zb7 h.fd hd;simp only[Sk.turn]at e;rw[this]at e;cases e
theorem Sk.zt4{s:Sh}(t:Sk)(h:1<=s.p):0<=t.here s/\t.here s<s.p:=⟨Int.emod_nonneg _ (by omega),Int.emod_lt_of_pos _ (by omega)⟩
theorem zid{s:Sh}{t:Sk}{x:Mc}(h:skOk s t)(hd:t.done=false)(G:t.now=some x)(H:x.done=true)(F:1<=s.p):skOk s (t.after s x):=by
 obtain⟨c1,c2,c3,c4,c5⟩:=h.cl hd;obtain⟨o,n⟩:=c5 x G;have E:=zb7 h.fd hd;have nx:∀ y,mcOk s y->zxi s t y->skOk s {t with now:=some y}:=fun y r B=>⟨fun _=>⟨c1,c2,c3,c4,fun z i=>by simp only[Option.some.injEq]at i;subst i;exact⟨r,B⟩⟩,fun e=>(by have e:t.found=true:=e;rw[E]at e;cases e)⟩;cases x with
 |tk y=>
  simp only[Sk.after];split
  ·rename_i f;obtain⟨C,D,j⟩:=o.en (o.fd f).1;have l:y.k=t.k:=n;exact zqd C (by rw[<-l,<- j];exact D)
  exact nx (.sc _) (z4p _ _ _ _) rfl
 |sc y=>
  simp only[Sk.after];split
  ·rename_i f;obtain⟨_,C,D,j⟩:=o.fd f;have l:y.k=t.k:=n;exact zqd ⟨Int.emod_nonneg _ (by omega),Int.emod_lt_of_pos _ (by omega)⟩ (by rw[<-l];exact j)
  exact nx (.pc _) (z5p _ _ _) trivial
 |pc y=>
  simp only[Sk.after];split
  ·exact zrr h hd ⟨Int.emod_nonneg _ (by omega),Int.emod_lt_of_pos _ (by omega)⟩
  exact⟨fun _=>⟨c1,c2,c3,c4,fun z i=>(by cases i)⟩,fun e=>(by have e:t.found=true:=e;rw[E]at e;cases e)⟩
 |sp y=>
  simp only[Sk.after];split
  ·exact zrr h hd (t.zt4 F)
  exact zsb h hd
 |bn y=>simp only[Sk.after];exact zqd n (by omega)
theorem znn{s:Sh}(f:1<=s.p)(n:Nat):∀ {t:Sk},skOk s t->skOk s (za5 s n t):=by
 induction n with
 |zero=>intro t h;exact h;|succ n j=>
  intro t h;unfold za5;split
  ·rename_i x i;split
   ·rename_i hc;exact j (zid h hc.1 i hc.2 f)
   exact h
  exact h
theorem zwd(s:Sh)(c k f:Int):skOk s (zhb s c k f):=by
 unfold zhb;split
 ·rename_i h;have h1:=zbe h.1;have h2:=zar.1 h1.1;have h3:=zcs h.2.2;refine znn h2.1 5 ⟨fun _=>⟨by dsimp only;omega,h.2.1,by dsimp only;omega,by dsimp only;omega,fun x i=>?_⟩,fun e=>(by cases e)⟩;simp only[Option.some.injEq]at i;subst i;exact⟨zl1 _ _ _,rfl⟩
 exact⟨fun e=>(by cases e),fun e=>(by cases e)⟩
theorem z2o{s:Sh}{t:Sk}(m:Mem)(n:1<=s.p)(h:skOk s t):skOk s (zbv s t m).1:=by
 unfold zbv;split
 ·exact h
 rename_i hd;have hd:t.done=false:=by simpa using hd
 obtain⟨c1,c2,c3,c4,c5⟩:=h.cl hd;have i:=zb7 h.fd hd;split
 ·rename_i x o;obtain⟨l,j⟩:=c5 x o;show skOk s (za5 s 5 {t with now:=some (zbr s x m).1});refine znn n 5 ⟨fun _=>⟨c1,c2,c3,c4,fun z f=>?_⟩,fun e=>(by have e:t.found=true:=e;rw[i]at e;cases e)⟩;simp only[Option.some.injEq]at f;subst f;exact⟨zjq m l,zg1 (t:=t) m j⟩
 dsimp only;split
 ·refine⟨fun _=>⟨c1,c2,c3,c4,fun z f=>?_⟩,fun e=>(by have e:t.found=true:=e;rw[i]at e;cases e)⟩;simp only[Option.some.injEq]at f;subst f;exact⟨zwx _ _ _ _,trivial⟩
 exact zsb h hd
def zdj (t:Sk):Nat:=if t.done=true then 0 else match t.now with
 | none=> 0
 | some (.tk _)=> 4
 | some (.sc _)=> 3
 | some (.pc _)=> 2
 | some (.sp _)=> 2
 | some (.bn _)=> 1
theorem ze1{s:Sh}{t:Sk}{x:Mc}(hd:t.done=false)(o:t.now=some x):zdj (t.after s x)<zdj t:=by
 have h0:zdj t=match (some x:Option Mc) with|none=>0|some (.tk _)=>4|some (.sc _)=>3|some (.pc _)=>2|some (.sp _)=>2|some (.bn _)=>1:=by unfold zdj;rw[if_neg (by rw[hd];decide),o]
 rw[h0];have j:zdj (t.turn s)=0:=by unfold zdj Sk.turn;dsimp only;split<;>rfl
 have l:∀ a b,zdj (t.fin a b)=0:=fun _ _=>by unfold zdj Sk.fin;rw[if_pos rfl]
 have n:∀ y,zdj {t with now:=some y}=match (some y:Option Mc) with|none=>0|some (.tk _)=>4|some (.sc _)=>3|some (.pc _)=>2|some (.sp _)=>2|some (.bn _)=>1:=fun y=>by unfold zdj;rw[if_neg (by dsimp only;rw[hd];decide)]
 have f:∀ a,zdj (t.bind s a)=1:=fun a=>by unfold zdj Sk.bind;rw[if_neg (by dsimp only;rw[hd];decide)]
 have i:zdj {t with now:=none}=0:=by unfold zdj;rw[if_neg (by dsimp only;rw[hd];decide)]
 cases x<;>simp only[Sk.after]<;>(try split)<;>simp only[j,l,n,f,i]<;>decide
theorem zp9{s:Sh}(n:Nat):∀ (t:Sk),zdj t<=n->za5 s (n+1) t=za5 s n t:=by
 induction n with
 |zero=>
  intro t h;conv=>lhs;unfold za5
  conv=>rhs;unfold za5
  split
  ·rename_i x f;rw[if_neg];intro hc;have:=ze1 (s:=s) hc.1 f;omega
  rfl
 |succ n i=>
  intro t h;conv=>lhs;unfold za5
  conv=>rhs;unfold za5
  split
  ·rename_i x f;split
   ·rename_i hc;have:=ze1 (s:=s) hc.1 f;exact i (t.after s x) (by omega)
   rfl
  rfl
theorem zpr{s:Sh}{t:Sk}{n:Nat}(h:zdj t<=n)(k:Nat):za5 s (n+k) t=za5 s n t:=by
 induction k with
 |zero=>rfl
 |succ k f=>rw[<-f];exact zp9 (n+k) t (by omega)
theorem zrw(t:Sk):zdj t<=4:=by unfold zdj;split<;>(try split)<;>omega
theorem zgs{s:Sh}{t:Sk}(h:t.done=true\/t.now=none\/∃ x,t.now=some x/\x.done=false)(n:Nat):za5 s n t=t:=by
 cases n with
 |zero=>rfl;|succ n=>
  unfold za5;split
  ·rename_i x f;rw[if_neg];rintro⟨h1,h2⟩;rcases h with h|h|⟨y,h,h3⟩
   ·rw[h1]at h;cases h
   ·rw[f]at h;cases h
   rw[f]at h;obtain rfl:=Option.some.inj h;rw[h2]at h3;cases h3
  rfl
theorem zm5{s:Sh}{t:Sk}{x:Mc}(hd:t.done=false)(i:t.now=some x)(f:x.done=true):za5 s 5 t=za5 s 5 (t.after s x):=by
 have h1:=ze1 (s:=s) hd i;have h2:=zrw t;rw[zpr (n:=4) (t:=t.after s x) (by omega) 1];show za5 s (4+1) t=_;conv=>lhs;unfold za5
 rw[i];dsimp only;rw[if_pos ⟨hd,f⟩]
structure rnOk (s:Sh) (t:Rn):Prop where
 cl:t.done=false->(0<=t.c/\t.c < s.c)/\(1<=t.pages/\t.pages<=8)/\(0<=t.head/\t.head + t.pages<=s.p)/\(t.head<=t.at'/\t.at'<=t.head + t.pages)/\(0<=t.next/\t.next<=5)/\
  (t.next≠5->t.at' < t.head + t.pages)/\(t.next=2->∃ x,t.strip=some x/\spOk s x/\x.done=false)/\(t.next=3->0<=t.i/\t.i < 16)/\(t.next=4->t.head < t.i/\t.i<=t.at')/\(t.next=5->t.head < t.i/\t.i < t.head + t.pages)
 fd:t.found=true->t.done=true/\(1<=t.pages/\t.pages<=8)/\(0<=t.head/\t.head + t.pages<=s.p)
theorem zwt(s:Sh)(c n:Int):rnOk s (zf8 s c n):=by
 refine⟨fun h=>?_,fun h=>(by cases h)⟩;simp only[zf8,Bool.not_eq_false',Bool.and_eq_true,decide_eq_true_eq]at h ⊢;obtain⟨⟨⟨h1,h2⟩,h3⟩,f⟩:=h;have h4:=zbe h1;refine⟨by omega,by omega,by omega,by omega,by omega,fun _=>by omega,fun e=>(by cases e),fun e=>(by cases e),fun e=>(by cases e),fun e=>(by cases e)⟩
theorem zld{s:Sh}{t:Rn}(f:t.found=false)(h1:0<=t.c/\t.c<s.c)(h2:1<=t.pages/\t.pages<=8)(h3:0<=t.head/\t.head+t.pages<=s.p)(h4:t.head<=t.at'/\t.at'<=t.head+t.pages)(j:t.next=5)(l:t.head<=t.i/\t.i<t.head+t.pages):rnOk s t.written:=by
 unfold Rn.written;split
 ·exact⟨fun e=>(by cases e),fun _=>⟨rfl,h2,h3⟩⟩
 refine⟨fun _=>⟨h1,h2,h3,h4,by dsimp only;omega,fun e=>?_,fun e=>?_,fun e=>?_,fun e=>?_,fun _=>?_⟩,fun e=>?_⟩
 ·dsimp only at e;omega
 ·dsimp only at e;omega
 ·dsimp only at e;omega
 ·dsimp only at e;omega
 ·dsimp only;omega
 dsimp only at e;rw[f]at e;cases e
theorem zxd{s:Sh}{t:Rn}(f:t.found=false)(h1:0<=t.c/\t.c<s.c)(h2:1<=t.pages/\t.pages<=8)(h3:0<=t.head/\t.head+t.pages<=s.p)(h4:t.head<=t.at'/\t.at'<t.head+t.pages):rnOk s t.own:=by
 unfold Rn.own;split
 ·exact zld f h1 h2 h3 (by dsimp only;omega) rfl (by dsimp only;omega)
 refine⟨fun _=>⟨h1,h2,h3,by dsimp only;omega,by dsimp only;omega,fun _=>by dsimp only;omega,fun e=>(by cases e),fun e=>(by cases e),fun e=>(by cases e),fun e=>(by cases e)⟩,fun e=>?_⟩;dsimp only at e;rw[f]at e;cases e
theorem zrn{s:Sh}{t:Rn}(f:t.found=false)(hd:t.done=false)(h1:0<=t.c/\t.c<s.c)(h2:1<=t.pages/\t.pages<=8)(h3:0<=t.head/\t.head+t.pages<=s.p)(h4:t.head<=t.at'/\t.at'<t.head+t.pages)(j:t.next=4)(l:t.i<=t.at'):rnOk s (t.gone s):=by
 unfold Rn.gone;split
 ·refine⟨fun _=>⟨h1,h2,h3,by omega,by omega,fun _=>h4.2,fun e=>by omega,fun e=>by omega,fun _=>by omega,fun e=>by omega⟩,fun e=>?_⟩;rw[f]at e;cases e
 refine⟨fun e=>?_,fun e=>?_⟩
 ·have:¬ s.p-t.pages<t.at'+1:=by simpa using e
  exact⟨h1,h2,by dsimp only;omega,by dsimp only;omega,by dsimp only;omega,fun _=>by dsimp only;omega,fun e=>(by cases e),fun e=>(by cases e),fun e=>(by cases e),fun e=>(by cases e)⟩
 dsimp only at e;rw[f]at e;cases e
theorem zmm{s:Sh}{t:Rn}(f:t.found=false)(hd:t.done=false)(h1:0<=t.c/\t.c<s.c)(h2:1<=t.pages/\t.pages<=8)(h3:0<=t.head/\t.head+t.pages<=s.p)(h4:t.head<=t.at'/\t.at'<t.head+t.pages):rnOk s (t.miss s):=
 zrn f hd h1 h2 h3 h4 rfl (Int.le_refl _)
theorem z0v{s:Sh}{t:Rn}(m:Mem)(h:rnOk s t):rnOk s (zcr s t m).1:=by
 unfold zcr;dsimp only;split
 ·exact h
 rename_i hd;have hd:t.done=false:=by simpa using hd
 obtain⟨c1,c2,c3,c4,c5,c6,c7,c8,c9,i⟩:=h.cl hd;have f:=zb7 h.fd hd;by_cases o:t.next=0
 ·have c6:=c6 (by omega);rw[if_pos o];dsimp only;split
  ·refine⟨fun _=>⟨c1,c2,c3,c4,by dsimp only;omega,fun _=>c6,fun e=>(by cases e),fun e=>(by cases e),fun e=>(by cases e),fun e=>(by cases e)⟩,fun e=>?_⟩;dsimp only at e;rw[f]at e;cases e
  split
  ·rename_i l;refine⟨fun _=>⟨c1,c2,c3,c4,by dsimp only;omega,fun _=>c6,fun _=>⟨_,rfl,zwx _ _ _ _,?_⟩,fun e=>(by cases e),fun e=>(by cases e),fun e=>(by cases e)⟩,fun e=>?_⟩
   ·have h1:=(zea.1 l.1).2.1;have h2:=zcs h1;have h3:=(zdq l.1 l.2).2.2;have h4:0<=zae s.p s.c s.m t.c:=by unfold zae;rw[if_pos ⟨h2.1,zbc.2 (by omega)⟩];exact c1.1
    simp[zfa,h1,h3,h4]
   dsimp only at e;rw[f]at e;cases e
  exact zmm f hd c1 c2 c3 (by omega)
 rw[if_neg o];by_cases n1:t.next=1
 ·have c6:=c6 (by omega);rw[if_pos n1];dsimp only;split
  ·exact zxd f c1 c2 c3 (by omega)
  exact zmm f hd c1 c2 c3 (by omega)
 rw[if_neg n1];by_cases n2:t.next=2
 ·have c6:=c6 (by omega);obtain⟨x,r,n,y⟩:=c7 n2;rw[if_pos n2,r];dsimp only;split
  ·refine⟨fun _=>⟨c1,c2,c3,c4,by dsimp only;omega,fun _=>c6,fun e=>(by cases e),fun _=>by dsimp only;omega,fun e=>(by cases e),fun e=>(by cases e)⟩,fun e=>?_⟩;dsimp only at e;rw[f]at e;cases e
  split
  ·exact zmm f hd c1 c2 c3 (by dsimp only;omega)
  rename_i j;refine⟨fun _=>⟨c1,c2,c3,c4,c5,fun _=>c6,fun _=>⟨_,rfl,znr m n,by simpa using j⟩,fun e=>?_,fun e=>?_,fun e=>?_⟩,fun e=>?_⟩
  ·exact c8 e
  ·exact c9 e
  ·exact i e
  dsimp only at e;rw[f]at e;cases e
 rw[if_neg n2];by_cases n3:t.next=3
 ·have c6:=c6 (by omega);have c8:=c8 n3;rw[if_pos n3];dsimp only;split
  ·exact zxd f c1 c2 c3 (by dsimp only;omega)
  refine⟨fun _=>⟨c1,c2,c3,c4,c5,fun _=>c6,fun e=>absurd e n2,fun _=>by dsimp only;omega,fun e=>by dsimp only at e;omega,fun e=>by dsimp only at e;omega⟩,fun e=>?_⟩;dsimp only at e;rw[f]at e;cases e
 rw[if_neg n3];by_cases n4:t.next=4
 ·have c6:=c6 (by omega);have c9:=c9 n4;rw[if_pos n4];exact zrn f hd c1 c2 c3 (by dsimp only;omega) n4 (by dsimp only;omega)
 rw[if_neg n4];have n5:t.next=5:=by omega
 have i:=i n5;exact zld f c1 c2 c3 c4 n5 (by omega)
theorem zdi{s:Sh}{c:Int}{b:Blk}:b.fits s c=true↔mayB s.p s.c s.m=true/\(0<=c/\c<s.c)/\(0<=b.page/\b.page<s.p)/\(b.large=true->1<=b.pages/\b.pages<=8/\b.pages<=s.p-b.page)/\(b.large=false->0<=b.slot/\b.slot<zah b.k):=by
 unfold Blk.fits;by_cases h1:zae s.p s.c s.m c<0
 ·rw[if_pos (.inl h1)];refine⟨fun e=>(by cases e),fun h=>?_⟩;have:zae s.p s.c s.m c=c:=by unfold zae;rw[if_pos ⟨h.1,zbc.2 (by omega)⟩]
  omega
 by_cases h2:zak s.p s.c s.m b.page<0
 ·rw[if_pos (.inr h2)];refine⟨fun e=>(by cases e),fun h=>?_⟩;have h3:=zar.1 h.1;have:zak s.p s.c s.m b.page=s.c+b.page:=by unfold zak;rw[if_pos ⟨h.1,zbc.2 (by omega)⟩]
  omega
 rw[if_neg (by omega)];have h3:=zbe (by omega:0<=zae s.p s.c s.m c);have h4:=zcs (by omega:0<=zak s.p s.c s.m b.page);cases hl:b.large
 ·simp only[Bool.false_eq_true,if_false,Bool.and_eq_true,decide_eq_true_eq];exact⟨fun h=>⟨h3.1,h3.2,h4.2,fun e=>(by cases e),fun _=>h⟩,fun h=>h.2.2.2.2 (by simp)⟩
 simp only[if_true,Bool.and_eq_true,decide_eq_true_eq];exact⟨fun h=>⟨h3.1,h3.2,h4.2,fun _=>⟨h.1.1,h.1.2,h.2⟩,fun e=>(by cases e)⟩,fun h=>by have:=h.2.2.2.1 (by simp);exact⟨⟨this.1,this.2.1⟩,this.2.2⟩⟩
def cmOk (s:Sh) (t:Cm):Prop:=t.done=false->t.b.fits s t.c=true
theorem zpt(s:Sh)(c:Int)(b:Blk):cmOk s (zc4 s c b):=fun h=>by simpa[zc4] using h
structure unOk (s:Sh) (t:Un):Prop where
 cl:t.done=false->t.b.fits s t.c=true/\(t.b.large=true->0<=t.i/\t.i < t.b.pages)
theorem z8l(s:Sh)(c:Int)(b:Blk):unOk s (zf1 s c b):=by
 refine⟨fun h=>?_⟩;have h:b.fits s c=true:=by simpa[zf1] using h
 refine⟨h,fun f=>?_⟩;have:=(zdi.1 h).2.2.2.1 f;simp only[zf1];omega
theorem z0o{s:Sh}{t:Un}(m:Mem)(h:unOk s t):unOk s (zcf s t m).1:=by
 unfold zcf;split
 ·exact h
 rename_i hd;obtain⟨h1,h2⟩:=h.cl (by simpa using hd);split
 ·exact⟨fun e=>(by cases e)⟩
 rename_i f;have f:t.b.large=true:=by simpa using f
 have h3:=h2 f;split
 ·exact⟨fun e=>(by cases e)⟩
 exact⟨fun _=>⟨h1,fun _=>by dsimp only;omega⟩⟩
structure feOk (s:Sh) (t:Fe):Prop where
 cl:t.done=false->(0<=t.c/\t.c < s.c)/\(0<=t.page/\t.page < s.p)/\spB s t.a=true/\(0<=t.next/\t.next<=4)/\(t.next<=1->t.i=0)/\
  (1<=t.next->(t.pk=3/\1<=t.pa/\t.pa<=8/\t.pa<=s.p - t.page)\/(t.pk=2/\0 < zah t.pa/\(0<=t.slot/\t.slot < zah t.pa)))/\
  (t.next=1->0<=t.word/\t.word < 18446744073709551616)/\(t.next=2->t.pk=2/\∃ x,t.put=some x/\puOk s x/\x.done=false)/\(t.next=3->t.pk=2)/\(t.next=4->t.pk=3/\0<=t.i/\t.i < t.pa)
theorem z05{s:Sh}{a:Int}:spB s a=true↔mayB s.p s.c s.m=true/\0<=a/\a<s.p*64:=by
 unfold spB;simp only[Bool.and_eq_true,zbc];exact⟨fun h=>⟨h.1,h.2.1,by omega⟩,fun h=>⟨h.1,h.2.1,by omega⟩⟩
theorem zwa(s:Sh)(c a:Int):feOk s (zc2 s c a):=by
 refine⟨fun h=>?_⟩;simp only[zc2,Bool.or_eq_false_iff,Bool.not_eq_false',decide_eq_false_iff_not]at h ⊢;obtain⟨h1,h2⟩:=h;have h3:=z05.1 h1;have h4:=zbe (by omega:0<=zae s.p s.c s.m c);rw[if_pos h1];exact⟨h4.2,by omega,h1,by omega,(fun _=>by first|rfl|trivial),fun e=>by omega,fun e=>by omega,fun e=>by omega,fun e=>by omega,fun e=>by omega⟩
theorem zcv(t:Fe)(x:Pu)(f:t.put=some x):(x.put=true/\t.kept= {t with done:=true})\/(x.put=false/\x.done=true/\t.kept= {t with next:=3})\/(x.put=false/\x.done=false/\t.kept=t):=by
 unfold Fe.kept;rw[f];dsimp only;cases h1:x.put
 ·cases h2:x.done
  ·exact .inr (.inr ⟨rfl,rfl,by simp⟩)
  exact .inr (.inl ⟨rfl,rfl,by simp⟩)
 exact .inl ⟨rfl,by simp⟩
theorem zwy{f k:Int}(h:0<=f/\f<64)(i:0<zah k):0<zbj k/\0<=f/zbj k/\f/zbj k<zah k:=by
 have h1:=zb4 i;have:k=0\/k=1\/k=2\/k=3:=by omega
 rcases this with rfl|rfl|rfl|rfl
 ·rw[show zbj 0=4 from rfl,show zah 0=16 from rfl];omega
 ·rw[show zbj 1=8 from rfl,show zah 1=8 from rfl];omega
 ·rw[show zbj 2=16 from rfl,show zah 2=4 from rfl];omega
 rw[show zbj 3=32 from rfl,show zah 3=2 from rfl];omega
theorem z1a{s:Sh}{t:Fe}(m:Mem)(r:m.fit)(h:feOk s t):feOk s (zca s t m).1:=by
 unfold zca;split
 ·exact h
 rename_i hd;have hd:t.done=false:=by simpa using hd
 obtain⟨c1,c2,c3,c4,c5,c6,c7,c8,c9,j⟩:=h.cl hd;by_cases y:t.next=0
 ·rw[if_pos y];unfold Fe.look;dsimp only;have l:0<=t.a%64/\t.a%64<64:=by omega
  split
  ·rename_i hb;have h3:=zn1 hb.1 hb.2.1;refine⟨fun _=>⟨c1,c2,c3,by dsimp only;omega,fun _=>c5 (by omega),fun _=>.inl ?_,fun _=>Mem.ze4 r _,fun e=>by dsimp only at e;omega,fun e=>by dsimp only at e;omega,fun e=>by dsimp only at e;omega⟩⟩;dsimp only;rw[if_pos hb.1,if_pos hb.1];exact⟨hb.2.1,h3⟩
  split
  ·rename_i hb;have h3:=(zdq hb.1 hb.2.1).2.2;refine⟨fun _=>⟨c1,c2,c3,by dsimp only;omega,fun _=>c5 (by omega),fun _=>.inr ?_,fun _=>Mem.ze4 r _,fun e=>by dsimp only at e;omega,fun e=>by dsimp only at e;omega,fun e=>by dsimp only at e;omega⟩⟩;dsimp only;rw[if_pos hb.1,if_pos hb.1];exact⟨hb.2.1,h3,(zwy l h3).2⟩
  exact⟨fun e=>(by cases e)⟩
 rw[if_neg y];by_cases n1:t.next=1
 ·rw[if_pos n1];have c6:=c6 (by omega);have c5:=c5 (by omega);unfold Fe.claim;split
  ·rename_i i;have c6:1<=t.pa/\t.pa<=8/\t.pa<=s.p-t.page:=by rcases c6 with h|h<;>omega
   refine⟨fun _=>⟨c1,c2,c3,by dsimp only;omega,fun e=>by dsimp only at e;omega,fun _=>.inl ⟨i,c6⟩,fun e=>by dsimp only at e;omega,fun e=>by dsimp only at e;omega,fun e=>by dsimp only at e;omega,fun _=>⟨i,by dsimp only;omega,by dsimp only;omega⟩⟩⟩
  rename_i i;have c6:t.pk=2/\0<zah t.pa/\(0<=t.slot/\t.slot<zah t.pa):=by rcases c6 with h|h;exact absurd h.1 i;exact h
  dsimp only;have f:∀ (u:Fe),u.c=t.c->u.page=t.page->u.a=t.a->u.next=3->u.pk=t.pk->u.pa=t.pa->u.slot=t.slot->feOk s u:=fun u z B C H o D E=>by refine⟨fun _=>⟨by rw[z];exact c1,by rw[B];exact c2,by rw[C];exact c3,by omega,fun e=>by omega,fun _=>.inr ?_,fun e=>by omega,fun e=>by omega,fun _=>by rw[o];exact c6.1,fun e=>by omega⟩⟩;rw[o,D,E];exact c6
  split
  ·rcases zcv ({t with gave:=decide (m.get (zbk s.p s.c s.m t.page t.slot)=zfl t.pa),next:=2,put:=some (zg5 s t.c t.page t.slot t.pa)}:Fe) _ rfl with⟨h1,_⟩|⟨h1,h2,h3⟩|⟨h1,h2,h3⟩
   ·simp[zg5]at h1
   ·rw[h3];exact f _ rfl rfl rfl rfl rfl rfl rfl
   rw[h3];exact⟨fun _=>⟨c1,c2,c3,by dsimp only;omega,fun e=>by dsimp only at e;omega,fun _=>.inr c6,fun e=>by dsimp only at e;omega,fun _=>⟨c6.1,_,rfl,z4n _ _ _ _ _,h2⟩,fun e=>by dsimp only at e;omega,fun e=>by dsimp only at e;omega⟩⟩
  exact f _ rfl rfl rfl rfl rfl rfl rfl
 rw[if_neg n1];by_cases n2:t.next=2
 ·rw[if_pos n2];have c6:=c6 (by omega);obtain⟨i,x,F,n,G⟩:=c8 n2;rw[F];dsimp only;rcases zcv ({t with put:=some (zd3 s x m).1}:Fe) _ rfl with⟨h1,h3⟩|⟨h1,h2,h3⟩|⟨h1,h2,h3⟩
  ·rw[h3];exact⟨fun e=>(by cases e)⟩
  ·rw[h3];exact⟨fun _=>⟨c1,c2,c3,by dsimp only;omega,fun e=>by dsimp only at e;omega,fun _=>c6,fun e=>by dsimp only at e;omega,fun e=>by dsimp only at e;omega,fun _=>i,fun e=>by dsimp only at e;omega⟩⟩
  rw[h3];exact⟨fun _=>⟨c1,c2,c3,c4,fun e=>by dsimp only at e;omega,fun _=>c6,fun e=>by dsimp only at e;omega,fun _=>⟨i,_,rfl,zq5 m n,h2⟩,fun _=>i,fun e=>by dsimp only at e;omega⟩⟩
 rw[if_neg n2];by_cases n3:t.next=3
 ·rw[if_pos n3];exact⟨fun e=>(by cases e)⟩
 rw[if_neg n3];have n4:t.next=4:=by omega
 have j:=j n4;split
 ·exact⟨fun e=>(by cases e)⟩
 exact⟨fun _=>⟨c1,c2,c3,c4,fun e=>by dsimp only at e;omega,fun _=>c6 (by omega),fun e=>by dsimp only at e;omega,fun e=>by dsimp only at e;omega,fun e=>by dsimp only at e;omega,fun _=>⟨j.1,by dsimp only;omega,by dsimp only;omega⟩⟩⟩
inductive Jb where
 | mal (r:Rs) (c:Option Cm)
 | fre (f:Fe)
 | aga (r:Rr)
 | hei (a:Ad)
 deriving DecidableEq
def zck (c:Option Cm):Bool:=match c with | some x=> x.done | none=> false
def Jb.done:Jb->Bool
 | .mal r c=> r.done && (!r.got.isSome || zck c)
 | .fre f=> f.done
 | .aga r=> r.done
 | .hei a=> a.done
def zhp (s:Sh) (cl:Int) (r:Rs) (c:Option Cm):Option Cm:=match c,r.got with
 | none,some b=> some (zc4 s cl b)
 | c,_=> c
def Jb.step (s:Sh) (cl:Int) (m:Mem):Jb->Jb × Mem
 | .mal r c=> if r.done=false then (.mal (zb0 s r m).1 c,(zb0 s r m).2) else match zhp s cl r c with
  | some x=> (.mal r (some (zb3 s x m).1),(zb3 s x m).2)
  | none=> (.mal r none,m)
 | .fre f=> (.fre (zca s f m).1,(zca s f m).2)
 | .aga r=> (.aga (zb9 s r m).1,(zb9 s r m).2)
 | .hei a=> (.hei (za0 s a m).1,(za0 s a m).2)
def Jb.gave:Jb->Bool
 | .mal _ _=> false
 | .fre f=> f.gave
 | .aga r=> (match r.free with | some f=> f.gave | none=> false)
 | .hei _=> false
def Jb.took:Jb->Option Blk
 | .mal r c=> if zck c=true then r.got else none
 | .fre _=> none
 | .aga r=> if r.done=true/\r.err=0 then (match r.res with | some x=> x.got | none=> none) else none
 | .hei _=> none
def Jb.err:Jb->Int
 | .mal r _=> if r.got.isSome=true then 0 else 3
 | .fre f=> if f.gave=true then 0 else 1
 | .aga r=> r.err
 | .hei a=> a.err
def zgl (s:Sh) (cl first kind a n:Int):Jb:=
 if kind=1 then .mal (zdh s cl n first) none
 else if kind=2 then .fre (zc2 s cl a)
 else if kind=3 then .aga (zhh s cl a n first)
 else .hei (zix s cl a)
end

section

open Go.RowKit

attribute [local go_sem ↓] Go.wp_at_zero Go.wp_at_succ

theorem zzf(p:Addr)(w:World):
  CallsD Tryz.prog 100 #[.pointer (some p)] .returning w fun e j w'=>e= .returned (.tuple #[])/\j= .returning/\w'=w:=by
 refine callsD_of_wpS Tryz.func100 rfl fun i cs hu=>?_;apply wpS_seq;apply wpS_region;simp[wpOpsS,go_sem,recoverD,hu,Tryz.ntmps100,Exit.thenS];refine wpS_cond (t:=false) (by simp[Act.eval,Array.replicate]) ?_;simp only[Bool.false_eq_true,if_false];refine wpS_of_wp (wp_skip ?_);cases i;simp_all [bodyPostS,results,Tryz.results100]
theorem zyf(B1 B2:Nat)(w:World){Q:World->Prop}
  (h:Calls Tryz.prog 81 #[some B1,some B2] (w.alloc (.cells #[.bool false] 4)) fun e w'=>e= .returned (.tuple #[])/\Q w'/\zaa w' w.heap.size #[.bool false] 4):
  Calls Tryz.prog 80 #[.func (.func 81) #[] #[some B1,some B2]] w fun e w'=>e= .returned (.bool true)/\∃ Y,Q Y/\w'=Y.setCell ⟨w.heap.size,0,.none⟩ (.bool true):=by
 have G:∀ (o:Fn) (first cap:Array Value) (w:World),(Instr.makeFunc o first cap).run Tryz.prog w= .ok (.func o first cap) w:=fun _ _ _ _=>rfl;replace h:=hd' h;go_enter_defers Tryz.func80,Tryz.ntmps80;have F:∀ W:World,(binOp .eql 1 (.func (.func 81) #[] #[some B1,some B2]) .nilFunc).run Tryz.prog W= .ok (.bool false) W:=fun W=>by kernel_rfl
 go_upto_region 1 with fail;generalize D:w.alloc (.cells #[.bool false] 4)=X at *;obtain⟨E,B,i⟩:=hidv w.heap.size;simp only[<-i]at h ⊢;clear i D;go_wp2_with (go_at_call 81;(with_reducible refine h.out.mono ?_);rintro r y ⟨rfl,C,l⟩;have z:=l.cell;have H:=zax l);refine leaves_cons (f:=100) (args:= #[some E]) (by simp) (by simp[go_sem]) ?_;refine(zzf ⟨E,0,.none⟩ _).mono ?_;rintro e I w'' ⟨rfl,rfl,rfl⟩;have n:=l.set 0 (.bool true);have c1:=ce (.bool true) (n.cell 0);rw[<-B.out];generalize s:y.setCell ⟨E,0,.none⟩ (.bool true)=Z at *;have j:∃ Y,Q Y/\Z=Y.setCell ⟨E,0,.none⟩ (.bool true):=⟨y,C,s.symm⟩;clear s;simp[Leaves,settle,results,Tryz.results80,go_sem,c1];exact j
end

end Go.Proofs.YtedcnffebdpmmaaGreat
