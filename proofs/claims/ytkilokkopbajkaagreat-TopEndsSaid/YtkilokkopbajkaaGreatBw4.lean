
import Derived.Deep.RegionWith

import Derived.Test.YtkilokkopbajkaaGreatBw3

set_option linter.all false
set_option maxHeartbeats 1000000
set_option maxRecDepth 100000
namespace Go.Proofs.YtkilokkopbajkaaGreat

open RowKit

def PA (x:Int):Int:=x % 16
def nA (x:Int) (i:Nat):Int:=x / (16*256 ^ i) % 256
theorem gJ(x:Int):0<=PA x/\PA x<=15:=by unfold PA;omega
theorem iF(x:Int)(i:Nat):0<=nA x i/\nA x i<=255:=by unfold nA;omega
theorem oJ(x:Int)(h0:0<=x)(h1:x<18446744073709551616):bits .and .u64 x 15=PA x:=bits_mask .u64 64 (by decide) (λn a b=>UE n a b) 4 (by decide) x h0 h1
theorem kH(x:Int)(h0:0<=x)(h1:x<18446744073709551616):bits .and .u64 x 255=x%256:=bits_mask .u64 64 (by decide) (λn a b=>UE n a b) 8 (by decide) x h0 h1
theorem rQ(x:Int)(w:World)(h0:0<=x)(h1:x<18446744073709551616):
  Calls Tryz.prog 134 #[.int .u64 x] w λe w'=>e=.returned (.int .i64 (PA x))/\w'=w:=by
 have hb:=gJ x;have b:=oJ x h0 h1;have i:=wrp (PA x);go_in;go_wp2;all_goals go_ret
 all_goals exact⟨rfl,rfl⟩
theorem HH(x:Int)(i:Nat):x/2^(4+8*i)%256=nA x i:=by
 unfold nA;rw[Int.pow_add,Int.pow_mul];rfl
theorem PG(x:Int)(i:Nat)(w:World)(h0:0<=x)(h1:x<18446744073709551616)(hi:i<=2):
  Calls Tryz.prog 135 #[.int .u64 x,i] w λe w'=>e=.returned (.int .i64 (nA x i))/\w'=w:=by
 have hb:=iF x i;have j:=wrp (nA x i);have:i=0\/i=1\/i=2:=by omega
 rcases this with rfl|rfl|rfl
 .have b:=kH (x/16) (by omega) (by omega);have hs:x/16%256=nA x 0:=HH x 0;rw[hs]at b;clear hs;go_in;go_wp2;all_goals go_ret
  all_goals exact⟨rfl,rfl⟩
 .have b:=kH (x/4096) (by omega) (by omega);have hs:x/4096%256=nA x 1:=HH x 1;rw[hs]at b;clear hs;go_in;go_wp2;all_goals go_ret
  all_goals exact⟨rfl,rfl⟩
 have b:=kH (x/1048576) (by omega) (by omega);have hs:x/1048576%256=nA x 2:=HH x 2;rw[hs]at b;clear hs;go_in;go_wp2;all_goals go_ret
 all_goals exact⟨rfl,rfl⟩
def qB (p c a k x y:Int):Bool:=
 if k=1 then decide (x<c) else if k=2 then decide (x<4)&&decide (y<c) else if k=3 then decide (1<=x)&&decide (x<=8)&&decide (x<=p-a)
 else if k=4 then decide (x<a)&&decide (a-8<x) else true
theorem aY(p c m a k x y:Int)(w:World)(l:0<=p)(i:p<=64)(j:0<=a)(b:a<=64):
  Calls Tryz.prog 140 #[.agg #[p,c,m],a,.agg #[k,x,y]] w λe w'=>e=.returned (.bool (qB p c a k x y))/\Below w.heap.size w w':=by
 go_in;go_wp2;all_goals go_ret
 all_goals refine⟨RG ?_,by go_grown⟩
 all_goals simp_all [qB]
 all_goals omega
theorem kM{p c m a:Int}(h:0<=pA p c m a):mayB p c m=true/\wi a 0 (p-1)=true:=by
 unfold pA at h;split at h
 .assumption
 omega
def LA (p c m a x:Int):Bool:=(QA (PA x) (nA x 0) (nA x 1)==x)&&decide (0<=pA p c m a)&&qB p c a (PA x) (nA x 0) (nA x 1)
theorem GU(p c m a x:Int)(w:World)(h0:0<=x)(h1:x<18446744073709551616):
  Calls Tryz.prog 111 #[.agg #[p,c,m],a,.int .u64 x] w λe w'=>Below w.heap.size w w'/\
   e=.returned (.tuple #[.agg (if LA p c m a x=true then #[.int .i64 (PA x),.int .i64 (nA x 0),.int .i64 (nA x 1)] else #[.int .i64 0,.int .i64 0,.int .i64 0]),.bool (LA p c m a x)]):=by
 have r:=λi=>PG x i;generalize T:PA x=k at*;generalize R:nA x 0=A at*;generalize S:nA x 1=B at*;have s:LA p c m a x=((QA k A B==x)&&decide (0<=pA p c m a)&&qB p c a k A B):=by rw[LA,T,R,S]
 have o:∀w,jK 134 #[.int .u64 x] w λe w'=>e=.returned (.int .i64 k)/\w'=w:=λw=>T▸rQ x w h0 h1;have C:∀w,jK 135 #[.int .u64 x,.int .i64 0] w λe w'=>e=.returned (.int .i64 A)/\w'=w:=λw=>R▸PG x 0 w h0 h1 (by omega);have D:∀w,jK 135 #[.int .u64 x,.int .i64 1] w λe w'=>e=.returned (.int .i64 B)/\w'=w:=λw=>S▸PG x 1 w h0 h1 (by omega);clear r T R S;cases hrb:LA p c m a x;all_goals
  rw[hrb]at s;replace s:=s.symm;first|rw[jP rfl]|rw[jN Bool.false_ne_true]
  clear hrb;go_in;go_upto_region 2 with(first|(go_at_call 134;refine(o _).mono ?_;rintro e y ⟨rfl,rfl⟩)|(go_at_call_of 135 (Value.int .i64 0);refine(C _).mono ?_;rintro e y ⟨rfl,rfl⟩)|(go_at_call_of 135 (Value.int .i64 1);refine(D _).mono ?_;rintro e y ⟨rfl,rfl⟩));clear o C D;obtain⟨Y,L,X,b0,q⟩:=SL w (.cells #[p,c,m] 23) (.cells #[.int .i64 0,.int .i64 0,.int .i64 0] 136) (.cells #[k,A,B] 136);generalize (((w.alloc (.cells #[p,c,m] 23)).alloc (.cells #[.int .i64 0,.int .i64 0,.int .i64 0] 136)).alloc (.cells #[k,A,B] 136))=W at*;generalize I:w.heap.size=H at*;have cS:=iA Y;have F:=iA L;have G:=KA L;have cP:=iA X;have l0:H<W.heap.size:=by omega
  have J:H+1<W.heap.size:=by omega
  have l2:H+1+1<W.heap.size:=by omega
  have hb:=Below.refl W.heap.size W;clear Y L X
 .by_cases h2:QA k A B=x
  .have z:(QA k A B !=x)=false:=by simpa using h2
   by_cases h3:0<=pA p c m a
   .obtain⟨h4,N⟩:=kM h3;have M:=JA.1 h4;have O:=BA.1 N;have h6:qB p c a k A B=false:=by simpa[h2,h3] using s
    clear s h2;go_wp2_with (first|(go_at_call 139;refine(WF _ _ _ _).mono ?_;rintro e y ⟨rfl,b⟩;have hb:=qA hb b;have hc:=iB hb;have l:=XA hb)|(go_at_call 112;refine(JB _ _ _ _ _).mono ?_;rintro e U ⟨rfl,b⟩;have hb:=qA hb b;have hc:=iB hb;have l:=XA hb)|(go_at_call 140;refine(aY _ _ _ _ _ _ _ _ (by omega) (by omega) (by omega) (by omega)).mono ?_;rintro e V ⟨rfl,b⟩;have hb:=qA hb b;have hc:=iB hb;have l:=XA hb));have j:Below H w V:=q.trans (hb.mono (by omega));have n:=j;rw[<-I]at j;refine bodyPost_ret (v:=.tuple #[.agg #[.int .i64 0,.int .i64 0,.int .i64 0],.bool false]) (by simp[results,Tryz.results111,go_sem,hc,l,F,G,J]) rfl ⟨?_,rfl⟩;go_grown
   have Z:pA p c m a<0:=by omega
   clear s h2;go_wp2_with (first|(go_at_call 139;refine(WF _ _ _ _).mono ?_;rintro e y ⟨rfl,b⟩;have hb:=qA hb b;have hc:=iB hb;have l:=XA hb)|(go_at_call 112;refine(JB _ _ _ _ _).mono ?_;rintro e U ⟨rfl,b⟩;have hb:=qA hb b;have hc:=iB hb;have l:=XA hb));have j:Below H w U:=q.trans (hb.mono (by omega));have n:=j;rw[<-I]at j;refine bodyPost_ret (v:=.tuple #[.agg #[.int .i64 0,.int .i64 0,.int .i64 0],.bool false]) (by simp[results,Tryz.results111,go_sem,hc,l,F,G,J]) rfl ⟨?_,rfl⟩;go_grown
  have z:(QA k A B !=x)=true:=by simpa using h2
  clear s;go_wp2_with (first|(go_at_call 139;refine(WF _ _ _ _).mono ?_;rintro e y ⟨rfl,b⟩;have hb:=qA hb b;have hc:=iB hb;have l:=XA hb));have j:Below H w y:=q.trans (hb.mono (by omega));have n:=j;rw[<-I]at j;refine bodyPost_ret (v:=.tuple #[.agg #[.int .i64 0,.int .i64 0,.int .i64 0],.bool false]) (by simp[results,Tryz.results111,go_sem,hc,l,F,G,J]) rfl ⟨?_,rfl⟩;go_grown
 have E:=s;simp only[jC,beq_iff_eq,decide_eq_true_eq]at E;obtain⟨⟨h2,h3⟩,h6⟩:=E;have z:(QA k A B !=x)=false:=by simpa using h2
 obtain⟨h4,N⟩:=kM h3;have M:=JA.1 h4;have O:=BA.1 N;clear s h2;go_wp2_with (first|(go_at_call 139;refine(WF _ _ _ _).mono ?_;rintro e y ⟨rfl,b⟩;have hb:=qA hb b;have hc:=iB hb;have l:=XA hb)|(go_at_call 112;refine(JB _ _ _ _ _).mono ?_;rintro e U ⟨rfl,b⟩;have hb:=qA hb b;have hc:=iB hb;have l:=XA hb)|(go_at_call 140;refine(aY _ _ _ _ _ _ _ _ (by omega) (by omega) (by omega) (by omega)).mono ?_;rintro e V ⟨rfl,b⟩;have hb:=qA hb b;have hc:=iB hb;have l:=XA hb));have j:Below H w V:=q.trans (hb.mono (by omega));have n:=j;rw[<-I]at j;refine bodyPost_ret (v:=.tuple #[.agg #[k,A,B],.bool true]) (by simp[results,Tryz.results111,go_sem,hc,l,F,G,J]) rfl ⟨?_,rfl⟩;go_grown
def QC (p c m x:Int):Bool:=(putV 1 [nA x 0,nA x 1,nA x 2]==x)&&decide (0<=pA p c m (nA x 0))&&decide (nA x 1<mA (nA x 2))
theorem OV(p c m x:Int)(w:World)(h0:0<=x)(h1:x<18446744073709551616):
  Calls Tryz.prog 142 #[.agg #[p,c,m],.int .u64 x] w λe w'=>Below w.heap.size w w'/\
   e=.returned (.tuple #[.agg (if QC p c m x=true then #[.int .i64 (nA x 0),.int .i64 (nA x 1),.int .i64 (nA x 2)] else #[.int .i64 0,.int .i64 0,.int .i64 0]),.bool (QC p c m x)]):=by
 have n:=λi=>PG x i;generalize L:nA x 0=A at*;generalize M:nA x 1=B at*;generalize N:nA x 2=C at*;have o:QC p c m x=((putV 1 [A,B,C]==x)&&decide (0<=pA p c m A)&&decide (B<mA C)):=by rw[QC,L,M,N]
 have y:∀w,jK 135 #[.int .u64 x,.int .i64 0] w λe w'=>e=.returned (.int .i64 A)/\w'=w:=λw=>L▸PG x 0 w h0 h1 (by omega);have z:∀w,jK 135 #[.int .u64 x,.int .i64 1] w λe w'=>e=.returned (.int .i64 B)/\w'=w:=λw=>M▸PG x 1 w h0 h1 (by omega);have D:∀w,jK 135 #[.int .u64 x,.int .i64 2] w λe w'=>e=.returned (.int .i64 C)/\w'=w:=λw=>N▸PG x 2 w h0 h1 (by omega);clear n L M N;cases hrb:QC p c m x;all_goals
  rw[hrb]at o;replace o:=o.symm;first|rw[jP rfl]|rw[jN Bool.false_ne_true]
  clear hrb;go_in;go_upto_region 2 with(first|(go_at_call_of 135 (Value.int .i64 0);refine(y _).mono ?_;rintro e S ⟨rfl,rfl⟩)|(go_at_call_of 135 (Value.int .i64 1);refine(z _).mono ?_;rintro e S ⟨rfl,rfl⟩)|(go_at_call_of 135 (Value.int .i64 2);refine(D _).mono ?_;rintro e S ⟨rfl,rfl⟩));clear y z D;obtain⟨R,J,O,V,l⟩:=SL w (.cells #[p,c,m] 23) (.cells #[.int .i64 0,.int .i64 0,.int .i64 0] 183) (.cells #[A,B,C] 183);generalize (((w.alloc (.cells #[p,c,m] 23)).alloc (.cells #[.int .i64 0,.int .i64 0,.int .i64 0] 183)).alloc (.cells #[A,B,C] 183))=W at*;generalize G:w.heap.size=H at*;have Y:=iA R;have E:=iA J;have F:=KA J;have X:=iA O;have Z:H<W.heap.size:=by omega
  have I:H+1<W.heap.size:=by omega
  have l2:H+1+1<W.heap.size:=by omega
  clear R J O
 .by_cases h2:putV 1 [A,B,C]=x
  .have r:(putV 1 [A,B,C] !=x)=false:=by simpa using h2
   by_cases h3:0<=pA p c m A
   .have s:decide (pA p c m A<0)=false:=jF (by omega);have T:B>=mA C:=by simpa[h2,h3] using o
    clear o h2;refine wre ?_;repeat (go_big_quiet_step ((first|(go_at_call 153;exact AA (UJ _ _ _ _))|(go_at_call 112;exact AA (JB _ _ _ _ _))|(go_at_call 75;exact yG (gD _ _)))))
    refine wpQuiet_nil ?_;rintro _ ⟨e,rfl⟩;go_wp2;have hc:=iB e.below;have q:=XA e.below;have b:Below H w e.w:=l.trans (e.below.mono (by omega));have j:=b;rw[<-G]at b;refine bodyPost_ret (v:=.tuple #[.agg #[.int .i64 0,.int .i64 0,.int .i64 0],.bool false]) (by simp[results,Tryz.results142,go_sem,hc,q,E,F,I]) rfl ⟨?_,rfl⟩;go_grown
   have s:decide (pA p c m A<0)=true:=jT (by omega);clear o h2;refine wre ?_;repeat (go_big_quiet_step ((first|(go_at_call 153;exact AA (UJ _ _ _ _))|(go_at_call 112;exact AA (JB _ _ _ _ _))|(go_at_call 75;exact yG (gD _ _)))))
   refine wpQuiet_nil ?_;rintro _ ⟨e,rfl⟩;go_wp2;have hc:=iB e.below;have q:=XA e.below;have b:Below H w e.w:=l.trans (e.below.mono (by omega));have j:=b;rw[<-G]at b;refine bodyPost_ret (v:=.tuple #[.agg #[.int .i64 0,.int .i64 0,.int .i64 0],.bool false]) (by simp[results,Tryz.results142,go_sem,hc,q,E,F,I]) rfl ⟨?_,rfl⟩;go_grown
  have r:(putV 1 [A,B,C] !=x)=true:=by simpa using h2
  clear o;refine wre ?_;repeat (go_big_quiet_step ((first|(go_at_call 153;exact AA (UJ _ _ _ _))|(go_at_call 112;exact AA (JB _ _ _ _ _))|(go_at_call 75;exact yG (gD _ _)))))
  refine wpQuiet_nil ?_;rintro _ ⟨e,rfl⟩;go_wp2;have hc:=iB e.below;have q:=XA e.below;have b:Below H w e.w:=l.trans (e.below.mono (by omega));have j:=b;rw[<-G]at b;refine bodyPost_ret (v:=.tuple #[.agg #[.int .i64 0,.int .i64 0,.int .i64 0],.bool false]) (by simp[results,Tryz.results142,go_sem,hc,q,E,F,I]) rfl ⟨?_,rfl⟩;go_grown
 simp only[jC,beq_iff_eq,decide_eq_true_eq]at o;obtain⟨⟨h2,h3⟩,T⟩:=o;have r:(putV 1 [A,B,C] !=x)=false:=by simpa using h2
 have s:decide (pA p c m A<0)=false:=jF (by omega);have U:¬B>=mA C:=by omega
 clear h2;refine wre ?_;repeat (go_big_quiet_step ((first|(go_at_call 153;exact AA (UJ _ _ _ _))|(go_at_call 112;exact AA (JB _ _ _ _ _))|(go_at_call 75;exact yG (gD _ _)))))
 refine wpQuiet_nil ?_;rintro _ ⟨e,rfl⟩;go_wp2;have hc:=iB e.below;have q:=XA e.below;have b:Below H w e.w:=l.trans (e.below.mono (by omega));have j:=b;rw[<-G]at b;refine bodyPost_ret (v:=.tuple #[.agg #[A,B,C],.bool true]) (by simp[results,Tryz.results142,go_sem,hc,q,E,F,I]) rfl ⟨?_,rfl⟩;go_grown
def cF (x:Int):Bool:=VA (PA x) (nA x 0)==x
structure Sh where
 p:Int
 c:Int
 m:Int
 deriving DecidableEq
structure Acc where
 c:Int
 k:Int
 a:Int
 was:Int
 put:Int
 ok:Bool
 deriving DecidableEq
structure Mem where
 ws:List Int
 st:Int
 la:Acc
def Mem.get (m:Mem) (a:Int):Int:=m.ws.getD a.toNat 0
def Mem.load (m:Mem) (c a:Int):Mem:=⟨m.ws,m.st+1,⟨c,0,a,m.get a,0,true⟩⟩
def Mem.store (m:Mem) (c a x:Int):Mem:=⟨m.ws.set a.toNat x,m.st+1,⟨c,1,a,m.get a,x,true⟩⟩
def Mem.swap (m:Mem) (c a was x:Int):Mem:=⟨if m.get a=was then m.ws.set a.toNat x else m.ws,m.st+1,⟨c,2,a,m.get a,x,decide (m.get a=was)⟩⟩
def Mem.fit (m:Mem):Prop:=∀x∈m.ws,0<=x/\x<18446744073709551616
def Mem.has (m:Mem) (a:Int):Prop:=0<=a/\a<(m.ws.length:Int)
def BB (k:Int):Int:=VA 1 k
def wayW (c:Int):Int:=VA 2 c
def CE (k:Int):Int:=VA 3 k
def WC (c:Int):Int:=QA 1 c 0
structure Tk where
 c:Int
 k:Int
 i:Int
 ep:Int
 es:Int
 ek:Int
 hit:Bool
 found:Bool
 done:Bool
 deriving DecidableEq
def sC (s:Sh) (c k:Int):Tk:=⟨c,k,0,0,0,0,false,false,!(decide (0<=uA s.p s.c s.m c)&&decide (0<mA k))||s.m==0⟩
def XC (s:Sh) (t:Tk) (m:Mem):Tk×Mem:=
 if t.done=true then (t,m)
 else if t.hit=true then ({t with found:=true,done:=true},m.store t.c (kC s.p s.c s.m t.c t.i) 0)
 else
  let x:=m.get (kC s.p s.c s.m t.c t.i)
  let m':=m.load t.c (kC s.p s.c s.m t.c t.i)
  if QC s.p s.c s.m x=true/\nA x 2=t.k then ({t with ep:=nA x 0,es:=nA x 1,ek:=nA x 2,hit:=true},m')
  else ({t with i:=t.i+1,done:=decide (t.i+1=s.m)},m')
structure Pu where
 c:Int
 i:Int
 ep:Int
 es:Int
 ek:Int
 hit:Bool
 put:Bool
 done:Bool
 deriving DecidableEq
def nD (s:Sh) (c pg sl k:Int):Pu:=⟨c,0,pg,sl,k,false,false,!(decide (0<=uA s.p s.c s.m c)&&decide (0<mA k)&&decide (0<=pA s.p s.c s.m pg)&&decide (0<=sl)&&decide (sl<mA k))||s.m==0⟩
def YC (s:Sh) (t:Pu) (m:Mem):Pu×Mem:=
 if t.done=true then (t,m)
 else if t.hit=true then ({t with put:=true,done:=true},m.store t.c (kC s.p s.c s.m t.c t.i) (putV 1 [t.ep,t.es,t.ek]))
 else
  let m':=m.load t.c (kC s.p s.c s.m t.c t.i)
  if m.get (kC s.p s.c s.m t.c t.i)=0 then ({t with hit:=true},m')
  else ({t with i:=t.i+1,done:=decide (t.i+1=s.m)},m')
structure Sc where
 c:Int
 k:Int
 first:Int
 many:Int
 i:Int
 next:Int
 found:Bool
 done:Bool
 deriving DecidableEq
def eD (s:Sh) (c k first:Int):Sc:=⟨c,k,first,0,0,0,false,!(decide (0<=uA s.p s.c s.m c)&&decide (0<mA k)&&decide (0<=pA s.p s.c s.m first))⟩
def Sc.page (s:Sh) (t:Sc):Int:=(t.first+t.many) % s.p
def Sc.turn (s:Sh) (t:Sc):Sc:={t with many:=t.many+1,i:=0,next:=0,done:=decide (t.many+1=s.p)}
def Sc.miss (s:Sh) (t:Sc):Sc:=if t.i+1=mA t.k then ({t with i:=t.i+1,next:=1}:Sc).turn s else {t with i:=t.i+1,next:=1}
def xD (s:Sh) (t:Sc) (m:Mem):Sc×Mem:=
 if t.done=true then (t,m)
 else
  let at':=bB s.p s.c s.m (t.page s) t.i
  let pg:=pA s.p s.c s.m (t.page s)
  if t.next=0 then
   let x:=m.get pg
   (if LA s.p s.c s.m (t.page s) x=true/\PA x=2/\nA x 0=t.k then {t with next:=1} else t.turn s,m.load t.c pg)
  else if t.next=1 then (if m.get at'=BB t.k then {t with next:=2} else t.miss s,m.load t.c at')
  else (if m.get at'=BB t.k then {t with found:=true,done:=true} else t.miss s,m.swap t.c at' (BB t.k) (wayW t.c))
structure Pc where
 c:Int
 first:Int
 many:Int
 empty:Bool
 found:Bool
 done:Bool
 deriving DecidableEq
def mE (s:Sh) (c first:Int):Pc:=⟨c,first,0,false,false,decide (uA s.p s.c s.m c<0)||decide (pA s.p s.c s.m first<0)⟩
def Pc.page (s:Sh) (t:Pc):Int:=(t.first+t.many) % s.p
def ZD (s:Sh) (t:Pc) (m:Mem):Pc×Mem:=
 if t.done=true then (t,m)
 else
  let at':=pA s.p s.c s.m (t.page s)
  if t.empty=false then
   (if m.get at'=0 then {t with empty:=true} else {t with empty:=false,many:=t.many+1,done:=decide (t.many+1=s.p)},m.load t.c at')
  else
   (if m.get at'=0 then {t with found:=true,done:=true} else {t with empty:=false,many:=t.many+1,done:=decide (t.many+1=s.p)},m.swap t.c at' 0 (WC t.c))
structure Sp where
 c:Int
 page:Int
 k:Int
 i:Int
 back:Bool
 held:Bool
 done:Bool
 deriving DecidableEq
def VB (s:Sh) (c page k:Int):Sp:=⟨c,page,k,0,false,false,!(decide (0<=uA s.p s.c s.m c)&&decide (0<=pA s.p s.c s.m page)&&decide (0<mA k))⟩
def SC (s:Sh) (t:Sp) (m:Mem):Sp×Mem:=
 if t.done=true then (t,m)
 else if t.back=true then ({t with i:=t.i-1,done:=decide (t.i-1=0)},m.store t.c (bB s.p s.c s.m t.page (t.i-1)) (BB t.k))
 else if t.i=mA t.k then ({t with held:=true,done:=true},m.store t.c (pA s.p s.c s.m t.page) (WC t.c))
 else
  (if m.get (bB s.p s.c s.m t.page t.i)=BB t.k then {t with i:=t.i+1} else {t with back:=true,done:=decide (t.i=0)},m.swap t.c (bB s.p s.c s.m t.page t.i) (BB t.k) (wayW t.c))
structure Bn where
 c:Int
 page:Int
 k:Int
 i:Int
 bound:Bool
 done:Bool
 deriving DecidableEq
def mC (s:Sh) (c page k:Int):Bn:=⟨c,page,k,0,false,!(decide (0<=uA s.p s.c s.m c)&&decide (0<=pA s.p s.c s.m page)&&decide (0<mA k))⟩
def YD (s:Sh) (t:Bn) (m:Mem):Bn×Mem:=
 if t.done=true then (t,m)
 else if t.bound=true then ({t with i:=t.i-1,done:=decide (t.i-1=0)},m.store t.c (bB s.p s.c s.m t.page t.i) (BB t.k))
 else if t.i=16 then ({t with bound:=true,i:=mA t.k-1},m.store t.c (pA s.p s.c s.m t.page) (QA 2 t.k t.c))
 else ({t with i:=t.i+1},m.store t.c (bB s.p s.c s.m t.page t.i) (if t.i<mA t.k then wayW t.c else 0))
section

attribute [local go_sem ↓] wp_at_zero wp_at_succ

def rowW (xs:List Int):Array Value:=(xs.map (Value.int .u64)).toArray
attribute [local go_sem] rowW

def iG (b:Nat) (m:Mem):Array Value:=#[.slice (some ⟨b,0,.none⟩) m.ws.length m.ws.length,m.st,m.la.c,m.la.k,m.la.a,.int .u64 m.la.was,.int .u64 m.la.put,m.la.ok]
attribute [local go_sem] iG

structure oA (w:World) (p b:Nat) (m:Mem):Prop where
 ne:p≠b
 blk:w.heap[p]?=some (.cells (iG b m) 173 (0,0))
 row:w.heap[b]?=some (.cells (rowW m.ws) 118 (0,0))
 fit:m.fit
 few:m.ws.length<=2000
 stb:0<=m.st/\m.st<=1000000000
theorem Mem.yF{m:Mem}(h:m.fit)(a:Int):0<=m.get a/\m.get a<18446744073709551616:=by
 unfold Mem.get;by_cases b:a.toNat<m.ws.length
 .rw[List.getD_eq_getElem?_getD,List.getElem?_eq_getElem b];exact h _ (List.getElem_mem b)
 rw[List.getD_eq_getElem?_getD,List.getElem?_eq_none (by omega)];exact⟨by decide,by decide⟩
theorem oA.cell{w:World}{p b:Nat}{m:Mem}(h:oA w p b m){a:Int}(f:m.has a):w.cell? ⟨b,a.toNat,.none⟩=some (.int .u64 (m.get a)):=by
 have i:a.toNat<m.ws.length:=by have:=f.1;have:=f.2;omega
 refine(iA h.row a.toNat).trans ?_;simp[rowW,Mem.get,i]
theorem FQ(p b:Nat)(m:Mem)(a:Int)(w:World)(h:oA w p b m)(j:m.has a):
  Calls Tryz.prog 132 #[some p,a] w λe w'=>e=.returned (.bool true)/\w'=w:=by
 obtain⟨n,l,i⟩:=hidv m.ws.length;have o:w.cell? ⟨p,0,.none⟩=some (.slice (some ⟨b,0,.none⟩) n n):=by rw[i];exact iA h.blk 0
 have a0:(0:Int)<=a:=j.1;have a1:a<(n:Int):=by rw[i];exact j.2
 clear i h j;go_in;go_wp2_with fail;go_ret;exact⟨rfl,rfl⟩
theorem WP(p b:Nat)(m:Mem)(a:Int)(w:World)(h:oA w p b m)(i:m.has a):
  Calls Tryz.prog 230 #[some p,a] w λe w'=>e=.returned (.tuple #[])/\w'=w:=by
 have h1:=hd' (FQ p b m a w h i);clear h i;go_in;go_wp2_with (go_at_call 132;refine h1.out.mono ?_;rintro r j ⟨rfl,rfl⟩);refine bodyPost_end (results_none rfl _ _ _) rfl ⟨rfl,rfl⟩
def accV (a:Acc):Value:=.agg #[a.c,a.k,a.a,.int .u64 a.was,.int .u64 a.put,a.ok]
theorem SP(p b:Nat)(m:Mem)(a:Acc)(w:World)(h:oA w p b m)(hs:m.st<1000000000):
  Calls Tryz.prog 231 #[some p,.agg #[a.c,a.k,a.a,.int .u64 a.was,.int .u64 a.put,a.ok]] w λe w'=>e=.returned (.tuple #[])/\oA w' p b ⟨m.ws,m.st+1,a⟩/\Only (λk=>k=p) w w':=by
 have y:IntKind.i64.wrap (m.st+1)=m.st+1:=by rw[IntKind.wrap_i64];have:=h.stb;omega
 have lp:p<w.heap.size:=(jE h.blk);have lb:b<w.heap.size:=(jE h.row);go_in;go_upto_region 1 with fail;have hb:=(Below.refl w.heap.size w).alloc lr (.cells #[a.c,a.k,a.a,.int .u64 a.was,.int .u64 a.put,a.ok] 155);have n:=jA w (.cells #[a.c,a.k,a.a,.int .u64 a.was,.int .u64 a.put,a.ok] 155);generalize w.alloc (.cells #[a.c,a.k,a.a,.int .u64 a.was,.int .u64 a.put,a.ok] 155)=V at*;obtain⟨E,s,j⟩:=hidv w.heap.size;simp only[<-j]at n|-;have r:p≠E:=by omega
 clear j;have l:=(hb.block p lp).trans h.blk;have o:=iA l;have z:=KA l;have q:=iA n;go_wp2_with fail;refine bodyPost_end (results_none rfl _ _ _) rfl ⟨rfl,⟨h.ne,?_,?_,h.fit,h.few,?_⟩,?_⟩
 .rw[heap_setCell_same _ p 7 _ _ _ (heap_setCell_same _ p 6 _ _ _ (heap_setCell_same _ p 5 _ _ _ (heap_setCell_same _ p 4 _ _ _ (heap_setCell_same _ p 3 _ _ _ (heap_setCell_same _ p 2 _ _ _ (heap_setCell_same _ p 1 _ _ _ l))))))];rfl
 .have i:b≠p:=λe=>h.ne e.symm;exact(Below.heap_setCell _ ⟨p,7,.none⟩ _ b i).trans ((Below.heap_setCell _ ⟨p,6,.none⟩ _ b i).trans ((Below.heap_setCell _ ⟨p,5,.none⟩ _ b i).trans ((Below.heap_setCell _ ⟨p,4,.none⟩ _ b i).trans ((Below.heap_setCell _ ⟨p,3,.none⟩ _ b i).trans ((Below.heap_setCell _ ⟨p,2,.none⟩ _ b i).trans ((Below.heap_setCell _ ⟨p,1,.none⟩ _ b i).trans ((hb.block b lb).trans h.row)))))))
 .have:=h.stb;dsimp only;omega
 exact((((((((Only.of_below (F:=λk=>k=p) hb).setCell (.inl rfl) _).setCell (.inl rfl) _).setCell (.inl rfl) _).setCell (.inl rfl) _).setCell (.inl rfl) _).setCell (.inl rfl) _).setCell (.inl rfl) _)
theorem uF(p b:Nat)(m:Mem)(c a:Int)(w:World)(h:oA w p b m)(l:m.has a)(hs:m.st<1000000000):
  Calls Tryz.prog 219 #[some p,c,a] w λe w'=>e=.returned (.int .u64 (m.get a))/\oA w' p b (m.load c a)/\Only (λk=>k=p) w w':=by
 have h1:=hd' (WP p b m a w h l);have h2:=hd' (λx:Acc=>SP p b m x w h hs);obtain⟨n,t,i⟩:=hidv m.ws.length;have z:w.cell? ⟨p,0,.none⟩=some (.slice (some ⟨b,0,.none⟩) n n):=by rw[i];exact iA h.blk 0
 have C:=h.cell l;have a0:(0:Int)<=a:=l.1;have a1:a<(n:Int):=by rw[i];exact l.2
 replace i:=hd' i;go_in;go_wp2_with (first|(go_at_call 230;refine h1.out.mono ?_;rintro r y ⟨rfl,s⟩;obtain rfl:=s.symm)|(go_at_call 231;refine(h2 ⟨c,0,a,m.get a,0,true⟩).mono ?_;rintro r q ⟨rfl,j,o⟩;have B:q.cell? ⟨p,0,.none⟩=some (.slice (some ⟨b,0,.none⟩) n n):=(by rw[i];exact iA j.blk 0);have D:q.cell? ⟨b,a.toNat,.none⟩=some (.int .u64 (m.get a)):=j.cell (m:=⟨m.ws,m.st+1,⟨c,0,a,m.get a,0,true⟩⟩) l));go_ret;exact⟨rfl,j,o⟩
theorem oA.put{w:World}{p b:Nat}{m:Mem}(h:oA w p b m){a x:Int}(j:m.has a)(i:0<=x/\x<18446744073709551616):oA (w.setCell ⟨b,a.toNat,.none⟩ (.int .u64 x)) p b ⟨m.ws.set a.toNat x,m.st,m.la⟩:=by
 refine⟨h.ne,?_,?_,?_,by simpa using h.few,h.stb⟩
 .rw[Below.heap_setCell _ ⟨b,a.toNat,.none⟩ _ p h.ne,h.blk];simp[iG]
 .rw[heap_setCell_same w b a.toNat _ _ _ h.row];simp only[rowW,List.map_set,List.setIfInBounds_toArray]
 intro y f;rcases List.mem_or_eq_of_mem_set f with f|rfl
 .exact h.fit y f
 exact i
theorem tC(p b:Nat)(m:Mem)(c a x:Int)(w:World)(h:oA w p b m)(l:m.has a)(t:0<=x/\x<18446744073709551616)(hs:m.st<1000000000):
  Calls Tryz.prog 218 #[some p,c,a,.int .u64 x] w λe w'=>e=.returned (.tuple #[])/\oA w' p b (m.store c a x)/\Only (λk=>k=p\/k=b) w w':=by
 have h1:=hd' (WP p b m a w h l);have h2:=hd' (λx:Acc=>SP p b m x w h hs);obtain⟨n,y,i⟩:=hidv m.ws.length;have B:w.cell? ⟨p,0,.none⟩=some (.slice (some ⟨b,0,.none⟩) n n):=by rw[i];exact iA h.blk 0
 have D:=h.cell l;have a0:(0:Int)<=a:=l.1;have a1:a<(n:Int):=by rw[i];exact l.2
 replace i:=hd' i;go_in;go_wp2_with (first|(go_at_call 230;refine h1.out.mono ?_;rintro r z ⟨rfl,s⟩;obtain rfl:=s.symm)|(go_at_call 231;refine(h2 ⟨c,1,a,m.get a,x,true⟩).mono ?_;rintro r q ⟨rfl,j,o⟩;have C:q.cell? ⟨p,0,.none⟩=some (.slice (some ⟨b,0,.none⟩) n n):=(by rw[i];exact iA j.blk 0);have E:q.cell? ⟨b,a.toNat,.none⟩=some (.int .u64 (m.get a)):=j.cell (m:=⟨m.ws,m.st+1,⟨c,1,a,m.get a,x,true⟩⟩) l;have G:=KA j.row));refine bodyPost_end (results_none rfl _ _ _) rfl ⟨rfl,?_,?_⟩
 .exact j.put (m:=⟨m.ws,m.st+1,⟨c,1,a,m.get a,x,true⟩⟩) l t
 exact(Only.trans (F:=λk=>k=p\/k=b) (Only.refl _ _) o (λ_ _ h=>.inl h)).setCell (.inl (.inr rfl)) _
theorem WH(p b:Nat)(m:Mem)(c a was x:Int)(w:World)(h:oA w p b m)(q:m.has a)(y:0<=x/\x<18446744073709551616)(hs:m.st<1000000000):
  Calls Tryz.prog 222 #[some p,c,a,.int .u64 was,.int .u64 x] w λe w'=>e=.returned (.bool (decide (m.get a=was)))/\oA w' p b (m.swap c a was x)/\Only (λk=>k=p\/k=b) w w':=by
 have h1:=hd' (WP p b m a w h q);have h2:=hd' (λx:Acc=>SP p b m x w h hs);obtain⟨n,B,l⟩:=hidv m.ws.length;have C:w.cell? ⟨p,0,.none⟩=some (.slice (some ⟨b,0,.none⟩) n n):=by rw[l];exact iA h.blk 0
 have E:=h.cell q;have a0:(0:Int)<=a:=q.1;have a1:a<(n:Int):=by rw[l];exact q.2
 replace l:=hd' l;by_cases i:m.get a=was
 .rw[jT i];have s:m.swap c a was x=⟨m.ws.set a.toNat x,m.st+1,⟨c,2,a,m.get a,x,true⟩⟩:=by unfold Mem.swap;rw[jP i,jT i]
  rw[s];clear s;have hb:(m.get a==was)=true:=by simpa using i
  clear i;go_in;go_wp2_with (first|(go_at_call 230;refine h1.out.mono ?_;rintro r z ⟨rfl,i⟩;obtain rfl:=i.symm)|(go_at_call 231;refine(h2 ⟨c,2,a,m.get a,x,true⟩).mono ?_;rintro r t ⟨rfl,j,o⟩;have D:t.cell? ⟨p,0,.none⟩=some (.slice (some ⟨b,0,.none⟩) n n):=(by rw[l];exact iA j.blk 0);have G:t.cell? ⟨b,a.toNat,.none⟩=some (.int .u64 (m.get a)):=j.cell (m:=⟨m.ws,m.st+1,⟨c,2,a,m.get a,x,true⟩⟩) q;have H:=KA j.row));go_returns;refine⟨rfl,?_,?_⟩
  .exact j.put (m:=⟨m.ws,m.st+1,⟨c,2,a,m.get a,x,true⟩⟩) q y
  exact(Only.trans (F:=λk=>k=p\/k=b) (Only.refl _ _) o (λ_ _ h=>.inl h)).setCell (.inl (.inr rfl)) _
 rw[jF i];have s:m.swap c a was x=⟨m.ws,m.st+1,⟨c,2,a,m.get a,x,false⟩⟩:=by unfold Mem.swap;rw[jN i,jF i]
 rw[s];clear s;have hb:(m.get a==was)=false:=by simpa using i
 clear i;go_in;go_wp2_with (first|(go_at_call 230;refine h1.out.mono ?_;rintro r z ⟨rfl,i⟩;obtain rfl:=i.symm)|(go_at_call 231;refine(h2 ⟨c,2,a,m.get a,x,false⟩).mono ?_;rintro r t ⟨rfl,j,o⟩));go_returns;exact⟨rfl,j,Only.trans (F:=λk=>k=p\/k=b) (Only.refl _ _) o (λ_ _ h=>.inl h)⟩
end

section

attribute [local go_sem] rowW iG

theorem gP(x:Int)(w:World)(h0:0<=x)(h1:x<18446744073709551616):
  Calls Tryz.prog 101 #[.int .u64 x] w λe w'=>Below w.heap.size w w'/\e=.returned (.tuple (if (ZA (PA x) (nA x 0)==x)=true then #[.int .i64 (PA x),.int .i64 (nA x 0)] else #[.int .i64 0,.int .i64 0])):=by
 have i:=λw=>PG x 0 w h0 h1 (by omega);have b:=λw=>rQ x w h0 h1;generalize PA x=k at*;generalize nA x 0=A at*;by_cases h2:ZA k A=x
 .have j:(ZA k A !=x)=false:=by simpa using h2
  have h3:(ZA k A==x)=true:=by simpa using h2
  rw[h3,jP rfl];clear h2 h3;go_in;go_wp2_with (first|(go_at_call 134;refine(b _).mono ?_;rintro e l ⟨rfl,rfl⟩)|(go_at_call 135;refine(i _).mono ?_;rintro e l ⟨rfl,rfl⟩)|(go_at_call 100;refine(YJ _ _ _).mono ?_;rintro e m ⟨rfl,hb⟩));go_ret2;exact⟨hb,rfl⟩
 have j:(ZA k A !=x)=true:=by simpa using h2
 have h3:(ZA k A==x)=false:=by simpa using h2
 rw[h3,jN Bool.false_ne_true];clear h2 h3;go_in;go_wp2_with (first|(go_at_call 134;refine(b _).mono ?_;rintro e l ⟨rfl,rfl⟩)|(go_at_call 135;refine(i _).mono ?_;rintro e l ⟨rfl,rfl⟩)|(go_at_call 100;refine(YJ _ _ _).mono ?_;rintro e m ⟨rfl,hb⟩));go_ret2;exact⟨hb,rfl⟩
structure Hp where
 p:Int
 c:Int
 m:Int
 xs:List Int
def wd (xs:List Int) (i:Int):Int:=xs.getD i.toNat 0
def Hp.ok (h:Hp):Bool:=mayB h.p h.c h.m&&decide (xB h.p h.c h.m<=(h.xs.length:Int))
def Hp.pw (h:Hp) (a:Int):Int:=wd h.xs (h.c+a)
def Hp.pb (h:Hp) (a:Int):Bool:=LA h.p h.c h.m a (h.pw a)
def Hp.pk (h:Hp) (a:Int):Int:=if h.pb a=true then PA (h.pw a) else 0
def Hp.pa (h:Hp) (a:Int):Int:=if h.pb a=true then nA (h.pw a) 0 else 0
def Hp.pn (h:Hp) (a:Int):Int:=if h.pb a=true then nA (h.pw a) 1 else 0
def Hp.sw (h:Hp) (a i:Int):Int:=wd h.xs (h.c+h.p+a*16+i)
def Hp.sk (h:Hp) (a i:Int):Int:=if cF (h.sw a i)=true then PA (h.sw a i) else 0
def Hp.sa (h:Hp) (a i:Int):Int:=if cF (h.sw a i)=true then nA (h.sw a i) 0 else 0
def Hp.hd (h:Hp) (a:Int):Int:=if (h.pb a&&h.pk a==4)=true then h.pa a else a
def Hp.hb (h:Hp) (a:Int):Bool:=h.pb (h.hd a)&&h.pk (h.hd a)==1
def Hp.hc (h:Hp) (a:Int):Int:=if h.hb a=true then h.pa (h.hd a) else 0
def KN (x:Int):Bool:=ZA (PA x) (nA x 0)==x&&PA x==1
def Hp.lv (h:Hp) (x:Int):Bool:=mayB h.p h.c h.m&&wi x 0 (h.c-1)&&KN (wd h.xs x)
def Hp.op (h:Hp) (a:Int):Nat->Bool
 | 0=>true
 |i+1=>h.op a i&&h.sk a i==1
def Hp.fr (h:Hp) (a:Int):Bool:=if (h.pb a&&h.pk a==2)=true then h.op a (mA (h.pa a)).toNat else h.pb a&&h.pk a==0
def Hp.rw (h:Hp):Nat->Nat
 | 0=>0
 |k+1=>if h.fr k=true then h.rw k+1 else 0
def Hp.fit (h:Hp):Prop:=∀x∈h.xs,0<=x/\x<18446744073709551616
theorem zpp{p c m a x:Int}(h:LA p c m a x=true):qB p c a (PA x) (nA x 0) (nA x 1)=true:=by
 unfold LA at h;simp only[jC]at h;exact h.2
theorem Hp.nQ{h:Hp}{a:Int}(b:h.pb a=true):qB h.p h.c a (h.pk a) (h.pa a) (h.pn a)=true:=by
 unfold Hp.pk Hp.pa Hp.pn;rw[jP b,jP b,jP b];exact zpp b
theorem Hp.EJ(h:Hp)(a:Int):(0<=h.pk a/\h.pk a<=15)/\(0<=h.pa a/\h.pa a<=255)/\0<=h.pn a/\h.pn a<=255:=by
 unfold Hp.pk Hp.pa Hp.pn;have:=gJ (h.pw a);have:=iF (h.pw a) 0;have:=iF (h.pw a) 1;split<;>simp_all
theorem Hp.fO{h:Hp}{a:Int}(b:(h.pb a&&h.pk a==3)=true):1<=h.pa a/\h.pa a<=8/\h.pa a<=h.p-a:=by
 simp only[jC,beq_iff_eq]at b;have:=h.nQ b.1;rw[b.2]at this;simp[qB]at this;omega
theorem Hp.aO{h:Hp}{a:Int}(b:(h.pb a&&h.pk a==2)=true):0<=h.pa a/\h.pa a<=3:=by
 simp only[jC,beq_iff_eq]at b;have:=h.nQ b.1;rw[b.2]at this;simp[qB]at this;have:=(h.EJ a).2.1.1;omega
end

section

attribute [local go_sem] rowW iG

attribute [local go_sem ↓] wp_at_zero wp_at_succ

theorem fI(a b:Int)(w:World):(Instr.field 139 (.agg #[a,b]) 0).run Tryz.prog w=.ok (.int .i64 a) w:=by kernel_rfl
theorem eI(a b:Int)(w:World):(Instr.field 139 (.agg #[a,b]) 1).run Tryz.prog w=.ok (.int .i64 b) w:=by kernel_rfl
attribute [local go_sem ↓] fI eI

end

end Go.Proofs.YtkilokkopbajkaaGreat
