/- Texts bound together: PackR MchP MchW AudRs. -/
import Derived.Deep.RegionWith

import Derived.Test.YtedcnffebdpmmaaGreatBu3

import Derived.Test.YtedcnffebdpmmaaGreatBu4

set_option linter.all false
set_option maxHeartbeats 1000000
set_option maxRecDepth 100000
namespace Go.Proofs.YtedcnffebdpmmaaGreat

section

open Go.RowKit

def zbx (x:Int):Int:=x % 16
def za2 (x:Int) (i:Nat):Int:=x / (16 * 256 ^ i) % 256
theorem zw3(x:Int):0<=zbx x/\zbx x<=15:=by unfold zbx;omega
theorem zgv(x:Int)(i:Nat):0<=za2 x i/\za2 x i<=255:=by unfold za2;omega
theorem yf8(x:Int)(h0:0<=x)(h1:x<18446744073709551616):bits .and .u64 x 15=zbx x:=bits_mask .u64 64 (by decide) (fun n a b=>zkd n a b) 4 (by decide) x h0 h1
theorem z0b(x:Int)(h0:0<=x)(h1:x<18446744073709551616):bits .and .u64 x 255=x%256:=bits_mask .u64 64 (by decide) (fun n a b=>zkd n a b) 8 (by decide) x h0 h1
theorem zqi(x:Int)(w:World)(h0:0<=x)(h1:x<18446744073709551616):
  Calls Tryz.prog 61 #[.int .u64 x] w fun e w'=>e= .returned (.int .i64 (zbx x))/\w'=w:=by
 have hb:=zw3 x;have b:=yf8 x h0 h1;have i:=wrp (zbx x);go_in;go_wp2;all_goals go_ret
 all_goals exact⟨rfl,rfl⟩
theorem zqh(x:Int)(i:Nat):x/2^(4+8*i)%256=za2 x i:=by
 unfold za2;rw[Int.pow_add,Int.pow_mul];rfl
theorem ze8(x:Int)(i:Nat)(w:World)(h0:0<=x)(h1:x<18446744073709551616)(hi:i<=2):
  Calls Tryz.prog 62 #[.int .u64 x,i] w fun e w'=>e= .returned (.int .i64 (za2 x i))/\w'=w:=by
 have hb:=zgv x i;have j:=wrp (za2 x i);have:i=0\/i=1\/i=2:=by omega
 rcases this with rfl|rfl|rfl
 ·have b:=z0b (x/16) (by omega) (by omega);have hs:x/16%256=za2 x 0:=zqh x 0;rw[hs]at b;clear hs;go_in;go_wp2;all_goals go_ret
  all_goals exact⟨rfl,rfl⟩
 ·have b:=z0b (x/4096) (by omega) (by omega);have hs:x/4096%256=za2 x 1:=zqh x 1;rw[hs]at b;clear hs;go_in;go_wp2;all_goals go_ret
  all_goals exact⟨rfl,rfl⟩
 have b:=z0b (x/1048576) (by omega) (by omega);have hs:x/1048576%256=za2 x 2:=zqh x 2;rw[hs]at b;clear hs;go_in;go_wp2;all_goals go_ret
 all_goals exact⟨rfl,rfl⟩
def zkb (p c a k x y:Int):Bool:=
 if k=1 then decide (x < c) else if k=2 then decide (x < 4) && decide (y < c) else if k=3 then decide (1<=x) && decide (x<=8) && decide (x<=p - a)
 else if k=4 then decide (x < a) && decide (a - 8 < x) else true
theorem zxg(p c m a k x y:Int)(w:World)(l:0<=p)(i:p<=64)(j:0<=a)(b:a<=64):
  Calls Tryz.prog 94 #[.agg #[p,c,m],a,.agg #[k,x,y]] w fun e w'=>e= .returned (.bool (zkb p c a k x y))/\Below w.heap.size w w':=by
 go_in;go_wp2;all_goals go_ret
 all_goals refine⟨zg6 ?_,by go_grown⟩
 all_goals simp_all [zkb]
 all_goals omega
theorem zjr{p c m a:Int}(h:0<=zak p c m a):mayB p c m=true/\wi a 0 (p-1)=true:=by
 unfold zak at h;split at h
 ·assumption
 omega
def zal (p c m a x:Int):Bool:=(zb8 (zbx x) (za2 x 0) (za2 x 1)==x) && decide (0<=zak p c m a) && zkb p c a (zbx x) (za2 x 0) (za2 x 1)
theorem zk2(p c m a x:Int)(w:World)(h0:0<=x)(h1:x<18446744073709551616):
  Calls Tryz.prog 64 #[.agg #[p,c,m],a,.int .u64 x] w fun e w'=>Below w.heap.size w w'/\
   e= .returned (.tuple #[.agg (if zal p c m a x=true then #[.int .i64 (zbx x),.int .i64 (za2 x 0),.int .i64 (za2 x 1)] else #[.int .i64 0,.int .i64 0,.int .i64 0]),.bool (zal p c m a x)]):=by
 have r:=fun i=>ze8 x i;generalize T:zbx x=k at *;generalize R:za2 x 0=A at *;generalize S:za2 x 1=B at *;have s:zal p c m a x=((zb8 k A B==x)&&decide (0<=zak p c m a)&&zkb p c a k A B):=by rw[zal,T,R,S]
 have o:∀ w,Calls Tryz.prog 61 #[.int .u64 x] w fun e w'=>e= .returned (.int .i64 k)/\w'=w:=fun w=>T ▸ zqi x w h0 h1;have C:∀ w,Calls Tryz.prog 62 #[.int .u64 x,.int .i64 0] w fun e w'=>e= .returned (.int .i64 A)/\w'=w:=fun w=>R ▸ ze8 x 0 w h0 h1 (by omega);have D:∀ w,Calls Tryz.prog 62 #[.int .u64 x,.int .i64 1] w fun e w'=>e= .returned (.int .i64 B)/\w'=w:=fun w=>S ▸ ze8 x 1 w h0 h1 (by omega);clear r T R S;cases hrb:zal p c m a x;all_goals
  rw[hrb]at s;replace s:=s.symm;first|rw[if_pos rfl]|rw[if_neg Bool.false_ne_true]
  clear hrb;go_in;go_upto_region 2 with(first|(go_at_call 61;refine(o _).mono ?_;rintro e y ⟨rfl,rfl⟩)|(go_at_call_of 62 (Value.int .i64 0);refine(C _).mono ?_;rintro e y ⟨rfl,rfl⟩)|(go_at_call_of 62 (Value.int .i64 1);refine(D _).mono ?_;rintro e y ⟨rfl,rfl⟩));clear o C D;obtain⟨Y,L,X,b0,q⟩:=zh5 w (.cells #[p,c,m] 23) (.cells #[.int .i64 0,.int .i64 0,.int .i64 0] 88) (.cells #[k,A,B] 88);generalize (((w.alloc (.cells #[p,c,m] 23)).alloc (.cells #[.int .i64 0,.int .i64 0,.int .i64 0] 88)).alloc (.cells #[k,A,B] 88))=W at *;generalize I:w.heap.size=H at *;have cS:=zac Y;have F:=zac L;have G:=zax L;have cP:=zac X;have l0:H<W.heap.size:=by omega
  have J:H+1<W.heap.size:=by omega
  have l2:H+1+1<W.heap.size:=by omega
  have hb:=Below.refl W.heap.size W;clear Y L X
 ·by_cases h2:zb8 k A B=x
  ·have z:(zb8 k A B !=x)=false:=by simpa using h2
   by_cases h3:0<=zak p c m a
   ·obtain⟨h4,N⟩:=zjr h3;have M:=zar.1 h4;have O:=zbc.1 N;have h6:zkb p c a k A B=false:=by simpa[h2,h3] using s
    clear s h2;go_wp2_with (first|(go_at_call 93;refine(zcd _ _ _ _).mono ?_;rintro e y ⟨rfl,b⟩;have hb:=zab hb b;have hc:=zi9 hb;have l:=zgi hb)|(go_at_call 65;refine(planPage_any _ _ _ _ _).mono ?_;rintro e U ⟨rfl,b⟩;have hb:=zab hb b;have hc:=zi9 hb;have l:=zgi hb)|(go_at_call 94;refine(zxg _ _ _ _ _ _ _ _ (by omega) (by omega) (by omega) (by omega)).mono ?_;rintro e V ⟨rfl,b⟩;have hb:=zab hb b;have hc:=zi9 hb;have l:=zgi hb));have j:Below H w V:=q.trans (hb.mono (by omega));have n:=j;rw[<-I]at j;refine bodyPost_ret (v:= .tuple #[.agg #[.int .i64 0,.int .i64 0,.int .i64 0],.bool false]) (by simp[results,Tryz.results64,go_sem,hc,l,F,G,J]) rfl ⟨?_,rfl⟩;go_grown
   have Z:zak p c m a<0:=by omega
   clear s h2;go_wp2_with (first|(go_at_call 93;refine(zcd _ _ _ _).mono ?_;rintro e y ⟨rfl,b⟩;have hb:=zab hb b;have hc:=zi9 hb;have l:=zgi hb)|(go_at_call 65;refine(planPage_any _ _ _ _ _).mono ?_;rintro e U ⟨rfl,b⟩;have hb:=zab hb b;have hc:=zi9 hb;have l:=zgi hb));have j:Below H w U:=q.trans (hb.mono (by omega));have n:=j;rw[<-I]at j;refine bodyPost_ret (v:= .tuple #[.agg #[.int .i64 0,.int .i64 0,.int .i64 0],.bool false]) (by simp[results,Tryz.results64,go_sem,hc,l,F,G,J]) rfl ⟨?_,rfl⟩;go_grown
  have z:(zb8 k A B !=x)=true:=by simpa using h2
  clear s;go_wp2_with (first|(go_at_call 93;refine(zcd _ _ _ _).mono ?_;rintro e y ⟨rfl,b⟩;have hb:=zab hb b;have hc:=zi9 hb;have l:=zgi hb));have j:Below H w y:=q.trans (hb.mono (by omega));have n:=j;rw[<-I]at j;refine bodyPost_ret (v:= .tuple #[.agg #[.int .i64 0,.int .i64 0,.int .i64 0],.bool false]) (by simp[results,Tryz.results64,go_sem,hc,l,F,G,J]) rfl ⟨?_,rfl⟩;go_grown
 have E:=s;simp only[Bool.and_eq_true,beq_iff_eq,decide_eq_true_eq]at E;obtain⟨⟨h2,h3⟩,h6⟩:=E;have z:(zb8 k A B !=x)=false:=by simpa using h2
 obtain⟨h4,N⟩:=zjr h3;have M:=zar.1 h4;have O:=zbc.1 N;clear s h2;go_wp2_with (first|(go_at_call 93;refine(zcd _ _ _ _).mono ?_;rintro e y ⟨rfl,b⟩;have hb:=zab hb b;have hc:=zi9 hb;have l:=zgi hb)|(go_at_call 65;refine(planPage_any _ _ _ _ _).mono ?_;rintro e U ⟨rfl,b⟩;have hb:=zab hb b;have hc:=zi9 hb;have l:=zgi hb)|(go_at_call 94;refine(zxg _ _ _ _ _ _ _ _ (by omega) (by omega) (by omega) (by omega)).mono ?_;rintro e V ⟨rfl,b⟩;have hb:=zab hb b;have hc:=zi9 hb;have l:=zgi hb));have j:Below H w V:=q.trans (hb.mono (by omega));have n:=j;rw[<-I]at j;refine bodyPost_ret (v:= .tuple #[.agg #[k,A,B],.bool true]) (by simp[results,Tryz.results64,go_sem,hc,l,F,G,J]) rfl ⟨?_,rfl⟩;go_grown
def zbi (p c m x:Int):Bool:=(putV 1 [za2 x 0,za2 x 1,za2 x 2]==x) && decide (0<=zak p c m (za2 x 0)) && decide (za2 x 1 < zah (za2 x 2))
theorem zp3(p c m x:Int)(w:World)(h0:0<=x)(h1:x<18446744073709551616):
  Calls Tryz.prog 97 #[.agg #[p,c,m],.int .u64 x] w fun e w'=>Below w.heap.size w w'/\
   e= .returned (.tuple #[.agg (if zbi p c m x=true then #[.int .i64 (za2 x 0),.int .i64 (za2 x 1),.int .i64 (za2 x 2)] else #[.int .i64 0,.int .i64 0,.int .i64 0]),.bool (zbi p c m x)]):=by
 have n:=fun i=>ze8 x i;generalize L:za2 x 0=A at *;generalize M:za2 x 1=B at *;generalize N:za2 x 2=C at *;have o:zbi p c m x=((putV 1 [A,B,C]==x)&&decide (0<=zak p c m A)&&decide (B<zah C)):=by rw[zbi,L,M,N]
 have y:∀ w,Calls Tryz.prog 62 #[.int .u64 x,.int .i64 0] w fun e w'=>e= .returned (.int .i64 A)/\w'=w:=fun w=>L ▸ ze8 x 0 w h0 h1 (by omega);have z:∀ w,Calls Tryz.prog 62 #[.int .u64 x,.int .i64 1] w fun e w'=>e= .returned (.int .i64 B)/\w'=w:=fun w=>M ▸ ze8 x 1 w h0 h1 (by omega);have D:∀ w,Calls Tryz.prog 62 #[.int .u64 x,.int .i64 2] w fun e w'=>e= .returned (.int .i64 C)/\w'=w:=fun w=>N ▸ ze8 x 2 w h0 h1 (by omega);clear n L M N;cases hrb:zbi p c m x;all_goals
  rw[hrb]at o;replace o:=o.symm;first|rw[if_pos rfl]|rw[if_neg Bool.false_ne_true]
  clear hrb;go_in;go_upto_region 2 with(first|(go_at_call_of 62 (Value.int .i64 0);refine(y _).mono ?_;rintro e S ⟨rfl,rfl⟩)|(go_at_call_of 62 (Value.int .i64 1);refine(z _).mono ?_;rintro e S ⟨rfl,rfl⟩)|(go_at_call_of 62 (Value.int .i64 2);refine(D _).mono ?_;rintro e S ⟨rfl,rfl⟩));clear y z D;obtain⟨R,J,O,V,l⟩:=zh5 w (.cells #[p,c,m] 23) (.cells #[.int .i64 0,.int .i64 0,.int .i64 0] 142) (.cells #[A,B,C] 142);generalize (((w.alloc (.cells #[p,c,m] 23)).alloc (.cells #[.int .i64 0,.int .i64 0,.int .i64 0] 142)).alloc (.cells #[A,B,C] 142))=W at *;generalize G:w.heap.size=H at *;have Y:=zac R;have E:=zac J;have F:=zax J;have X:=zac O;have Z:H<W.heap.size:=by omega
  have I:H+1<W.heap.size:=by omega
  have l2:H+1+1<W.heap.size:=by omega
  clear R J O
 ·by_cases h2:putV 1 [A,B,C]=x
  ·have r:(putV 1 [A,B,C] !=x)=false:=by simpa using h2
   by_cases h3:0<=zak p c m A
   ·have s:decide (zak p c m A<0)=false:=decide_eq_false (by omega);have T:B>=zah C:=by simpa[h2,h3] using o
    clear o h2;refine wre ?_;repeat (go_big_quiet_step ((first|(go_at_call 111;exact zam (zes _ _ _ _))|(go_at_call 65;exact zam (planPage_any _ _ _ _ _))|(go_at_call 67;exact zdx (slots_any _ _)))))
    refine wpQuiet_nil ?_;rintro _ ⟨e,rfl⟩;go_wp2;have hc:=zi9 e.below;have q:=zgi e.below;have b:Below H w e.w:=l.trans (e.below.mono (by omega));have j:=b;rw[<-G]at b;refine bodyPost_ret (v:= .tuple #[.agg #[.int .i64 0,.int .i64 0,.int .i64 0],.bool false]) (by simp[results,Tryz.results97,go_sem,hc,q,E,F,I]) rfl ⟨?_,rfl⟩;go_grown
   have s:decide (zak p c m A<0)=true:=decide_eq_true (by omega);clear o h2;refine wre ?_;repeat (go_big_quiet_step ((first|(go_at_call 111;exact zam (zes _ _ _ _))|(go_at_call 65;exact zam (planPage_any _ _ _ _ _))|(go_at_call 67;exact zdx (slots_any _ _)))))
   refine wpQuiet_nil ?_;rintro _ ⟨e,rfl⟩;go_wp2;have hc:=zi9 e.below;have q:=zgi e.below;have b:Below H w e.w:=l.trans (e.below.mono (by omega));have j:=b;rw[<-G]at b;refine bodyPost_ret (v:= .tuple #[.agg #[.int .i64 0,.int .i64 0,.int .i64 0],.bool false]) (by simp[results,Tryz.results97,go_sem,hc,q,E,F,I]) rfl ⟨?_,rfl⟩;go_grown
  have r:(putV 1 [A,B,C] !=x)=true:=by simpa using h2
  clear o;refine wre ?_;repeat (go_big_quiet_step ((first|(go_at_call 111;exact zam (zes _ _ _ _))|(go_at_call 65;exact zam (planPage_any _ _ _ _ _))|(go_at_call 67;exact zdx (slots_any _ _)))))
  refine wpQuiet_nil ?_;rintro _ ⟨e,rfl⟩;go_wp2;have hc:=zi9 e.below;have q:=zgi e.below;have b:Below H w e.w:=l.trans (e.below.mono (by omega));have j:=b;rw[<-G]at b;refine bodyPost_ret (v:= .tuple #[.agg #[.int .i64 0,.int .i64 0,.int .i64 0],.bool false]) (by simp[results,Tryz.results97,go_sem,hc,q,E,F,I]) rfl ⟨?_,rfl⟩;go_grown
 simp only[Bool.and_eq_true,beq_iff_eq,decide_eq_true_eq]at o;obtain⟨⟨h2,h3⟩,T⟩:=o;have r:(putV 1 [A,B,C] !=x)=false:=by simpa using h2
 have s:decide (zak p c m A<0)=false:=decide_eq_false (by omega);have U:¬ B>=zah C:=by omega
 clear h2;refine wre ?_;repeat (go_big_quiet_step ((first|(go_at_call 111;exact zam (zes _ _ _ _))|(go_at_call 65;exact zam (planPage_any _ _ _ _ _))|(go_at_call 67;exact zdx (slots_any _ _)))))
 refine wpQuiet_nil ?_;rintro _ ⟨e,rfl⟩;go_wp2;have hc:=zi9 e.below;have q:=zgi e.below;have b:Below H w e.w:=l.trans (e.below.mono (by omega));have j:=b;rw[<-G]at b;refine bodyPost_ret (v:= .tuple #[.agg #[A,B,C],.bool true]) (by simp[results,Tryz.results97,go_sem,hc,q,E,F,I]) rfl ⟨?_,rfl⟩;go_grown
def zet (x:Int):Bool:=zc3 (zbx x) (za2 x 0)==x
theorem zso(x:Int)(w:World)(h0:0<=x)(h1:x<18446744073709551616):
  Calls Tryz.prog 95 #[.int .u64 x] w fun e w'=>Below w.heap.size w w'/\
   e= .returned (.agg (if zet x=true then #[.int .i64 (zbx x),.int .i64 (za2 x 0)] else #[.int .i64 0,.int .i64 0])):=by
 generalize y:zbx x=k at *;generalize r:za2 x 0=A at *;have j:zet x=(zc3 k A==x):=by rw[zet,y,r]
 have i:∀ w,Calls Tryz.prog 61 #[.int .u64 x] w fun e w'=>e= .returned (.int .i64 k)/\w'=w:=fun w=>y ▸ zqi x w h0 h1;have n:∀ w,Calls Tryz.prog 62 #[.int .u64 x,.int .i64 0] w fun e w'=>e= .returned (.int .i64 A)/\w'=w:=fun w=>r ▸ ze8 x 0 w h0 h1 (by omega);clear y r;cases hrb:zet x;all_goals
  rw[hrb]at j;replace j:=j.symm;first|rw[if_pos rfl]|rw[if_neg Bool.false_ne_true]
  clear hrb;go_in;go_upto_region 2 with(first|(go_at_call 61;refine(i _).mono ?_;rintro e o ⟨rfl,rfl⟩)|(go_at_call 62;refine(n _).mono ?_;rintro e o ⟨rfl,rfl⟩));clear i n;obtain⟨p,z,F,l⟩:=zc5 w (.cells #[.int .i64 0,.int .i64 0] 135) (.cells #[k,A] 135);generalize ((w.alloc (.cells #[.int .i64 0,.int .i64 0] 135)).alloc (.cells #[k,A] 135))=W at *;generalize D:w.heap.size=H at *;have B:=zac p;have C:=zax p;have G:=zac z;have E:H<W.heap.size:=by omega
  have I:H+1<W.heap.size:=by omega
  clear p z
 ·have q:(zc3 k A !=x)=true:=by simpa using j
  clear j;go_wp2_with (go_at_call 110;refine(zbl _ _ _).mono ?_;rintro e o ⟨rfl,hb⟩;have hc:=zi9 hb;have s:=zgi hb);have b:Below H w o:=l.trans (hb.mono (by omega));have m:=b;rw[<-D]at b;refine bodyPost_ret (v:= .agg #[.int .i64 0,.int .i64 0]) (by simp[results,Tryz.results95,go_sem,hc,s,B,C,E]) rfl ⟨?_,rfl⟩;go_grown
 have q:(zc3 k A !=x)=false:=by simpa using j
 clear j;go_wp2_with (go_at_call 110;refine(zbl _ _ _).mono ?_;rintro e o ⟨rfl,hb⟩;have hc:=zi9 hb;have s:=zgi hb);have b:Below H w o:=l.trans (hb.mono (by omega));have m:=b;rw[<-D]at b;refine bodyPost_ret (v:= .agg #[k,A]) (by simp[results,Tryz.results95,go_sem,hc,s,B,C,E]) rfl ⟨?_,rfl⟩;go_grown
end

section

structure Sh where
 p:Int
 c:Int
 m:Int
 deriving DecidableEq
structure Acc where
 c:Int
 k:Int
 a:Int
 was:Int
 put:Int
 ok:Bool
 deriving DecidableEq
structure Mem where
 ws:List Int
 st:Int
 la:Acc
def Mem.get (m:Mem) (a:Int):Int:=m.ws.getD a.toNat 0
def Mem.load (m:Mem) (c a:Int):Mem:=⟨m.ws,m.st + 1,⟨c,0,a,m.get a,0,true⟩⟩
def Mem.store (m:Mem) (c a x:Int):Mem:=⟨m.ws.set a.toNat x,m.st + 1,⟨c,1,a,m.get a,x,true⟩⟩
def Mem.swap (m:Mem) (c a was x:Int):Mem:=⟨if m.get a=was then m.ws.set a.toNat x else m.ws,m.st + 1,⟨c,2,a,m.get a,x,decide (m.get a=was)⟩⟩
def Mem.fit (m:Mem):Prop:=∀ x ∈ m.ws,0<=x/\x < 18446744073709551616
def Mem.has (m:Mem) (a:Int):Prop:=0<=a/\a < (m.ws.length:Int)
def zc8 (k:Int):Int:=zc3 1 k
def wayW (c:Int):Int:=zc3 2 c
def zfl (k:Int):Int:=zc3 3 k
def zf4 (c:Int):Int:=zb8 1 c 0
structure Tk where
 c:Int
 k:Int
 i:Int
 ep:Int
 es:Int
 ek:Int
 hit:Bool
 found:Bool
 done:Bool
 deriving DecidableEq
def zg3 (s:Sh) (c k:Int):Tk:=⟨c,k,0,0,0,0,false,false, !(decide (0<=zae s.p s.c s.m c) && decide (0 < zah k)) || s.m==0⟩
def zd2 (s:Sh) (t:Tk) (m:Mem):Tk × Mem:=
 if t.done=true then (t,m)
 else if t.hit=true then ({ t with found:=true,done:=true },m.store t.c (ze9 s.p s.c s.m t.c t.i) 0)
 else
  let x:=m.get (ze9 s.p s.c s.m t.c t.i)
  let m':=m.load t.c (ze9 s.p s.c s.m t.c t.i)
  if zbi s.p s.c s.m x=true/\za2 x 2=t.k then ({ t with ep:=za2 x 0,es:=za2 x 1,ek:=za2 x 2,hit:=true },m')
  else ({ t with i:=t.i + 1,done:=decide (t.i + 1=s.m) },m')
structure Pu where
 c:Int
 i:Int
 ep:Int
 es:Int
 ek:Int
 hit:Bool
 put:Bool
 done:Bool
 deriving DecidableEq
def zg5 (s:Sh) (c pg sl k:Int):Pu:=⟨c,0,pg,sl,k,false,false, !(decide (0<=zae s.p s.c s.m c) && decide (0 < zah k) && decide (0<=zak s.p s.c s.m pg) && decide (0<=sl) && decide (sl < zah k)) || s.m==0⟩
def zd3 (s:Sh) (t:Pu) (m:Mem):Pu × Mem:=
 if t.done=true then (t,m)
 else if t.hit=true then ({ t with put:=true,done:=true },m.store t.c (ze9 s.p s.c s.m t.c t.i) (putV 1 [t.ep,t.es,t.ek]))
 else
  let m':=m.load t.c (ze9 s.p s.c s.m t.c t.i)
  if m.get (ze9 s.p s.c s.m t.c t.i)=0 then ({ t with hit:=true },m')
  else ({ t with i:=t.i + 1,done:=decide (t.i + 1=s.m) },m')
structure Sc where
 c:Int
 k:Int
 first:Int
 many:Int
 i:Int
 next:Int
 found:Bool
 done:Bool
 deriving DecidableEq
def ziq (s:Sh) (c k first:Int):Sc:=⟨c,k,first,0,0,0,false, !(decide (0<=zae s.p s.c s.m c) && decide (0 < zah k) && decide (0<=zak s.p s.c s.m first))⟩
def Sc.page (s:Sh) (t:Sc):Int:=(t.first + t.many) % s.p
def Sc.turn (s:Sh) (t:Sc):Sc:= { t with many:=t.many + 1,i:=0,next:=0,done:=decide (t.many + 1=s.p) }
def Sc.miss (s:Sh) (t:Sc):Sc:=if t.i + 1=zah t.k then ({ t with i:=t.i + 1,next:=1 }:Sc).turn s else { t with i:=t.i + 1,next:=1 }
def zed (s:Sh) (t:Sc) (m:Mem):Sc × Mem:=
 if t.done=true then (t,m)
 else
  let at':=zbk s.p s.c s.m (t.page s) t.i
  let pg:=zak s.p s.c s.m (t.page s)
  if t.next=0 then
   let x:=m.get pg
   (if zal s.p s.c s.m (t.page s) x=true/\zbx x=2/\za2 x 0=t.k then { t with next:=1 } else t.turn s,m.load t.c pg)
  else if t.next=1 then (if m.get at'=zc8 t.k then { t with next:=2 } else t.miss s,m.load t.c at')
  else (if m.get at'=zc8 t.k then { t with found:=true,done:=true } else t.miss s,m.swap t.c at' (zc8 t.k) (wayW t.c))
structure Pc where
 c:Int
 first:Int
 many:Int
 empty:Bool
 found:Bool
 done:Bool
 deriving DecidableEq
def zlu (s:Sh) (c first:Int):Pc:=⟨c,first,0,false,false,decide (zae s.p s.c s.m c < 0) || decide (zak s.p s.c s.m first < 0)⟩
def Pc.page (s:Sh) (t:Pc):Int:=(t.first + t.many) % s.p
def ze7 (s:Sh) (t:Pc) (m:Mem):Pc × Mem:=
 if t.done=true then (t,m)
 else
  let at':=zak s.p s.c s.m (t.page s)
  if t.empty=false then
   (if m.get at'=0 then { t with empty:=true } else { t with empty:=false,many:=t.many + 1,done:=decide (t.many + 1=s.p) },m.load t.c at')
  else
   (if m.get at'=0 then { t with found:=true,done:=true } else { t with empty:=false,many:=t.many + 1,done:=decide (t.many + 1=s.p) },m.swap t.c at' 0 (zf4 t.c))
structure Sp where
 c:Int
 page:Int
 k:Int
 i:Int
 back:Bool
 held:Bool
 done:Bool
 deriving DecidableEq
def zfa (s:Sh) (c page k:Int):Sp:=⟨c,page,k,0,false,false, !(decide (0<=zae s.p s.c s.m c) && decide (0<=zak s.p s.c s.m page) && decide (0 < zah k))⟩
def zdu (s:Sh) (t:Sp) (m:Mem):Sp × Mem:=
 if t.done=true then (t,m)
 else if t.back=true then ({ t with i:=t.i - 1,done:=decide (t.i - 1=0) },m.store t.c (zbk s.p s.c s.m t.page (t.i - 1)) (zc8 t.k))
 else if t.i=zah t.k then ({ t with held:=true,done:=true },m.store t.c (zak s.p s.c s.m t.page) (zf4 t.c))
 else
  (if m.get (zbk s.p s.c s.m t.page t.i)=zc8 t.k then { t with i:=t.i + 1 } else { t with back:=true,done:=decide (t.i=0) },m.swap t.c (zbk s.p s.c s.m t.page t.i) (zc8 t.k) (wayW t.c))
structure Bn where
 c:Int
 page:Int
 k:Int
 i:Int
 bound:Bool
 done:Bool
 deriving DecidableEq
def zfi (s:Sh) (c page k:Int):Bn:=⟨c,page,k,0,false, !(decide (0<=zae s.p s.c s.m c) && decide (0<=zak s.p s.c s.m page) && decide (0 < zah k))⟩
def ze6 (s:Sh) (t:Bn) (m:Mem):Bn × Mem:=
 if t.done=true then (t,m)
 else if t.bound=true then ({ t with i:=t.i - 1,done:=decide (t.i - 1=0) },m.store t.c (zbk s.p s.c s.m t.page t.i) (zc8 t.k))
 else if t.i=16 then ({ t with bound:=true,i:=zah t.k - 1 },m.store t.c (zak s.p s.c s.m t.page) (zb8 2 t.k t.c))
 else ({ t with i:=t.i + 1 },m.store t.c (zbk s.p s.c s.m t.page t.i) (if t.i < zah t.k then wayW t.c else 0))
end

section

open Go.RowKit

attribute [local go_sem ↓] Go.wp_at_zero Go.wp_at_succ

def rowW (xs:List Int):Array Value:=(xs.map (Value.int .u64)).toArray
attribute [local go_sem] rowW

def zio (b:Nat) (m:Mem):Array Value:= #[.slice (some ⟨b,0,.none⟩) m.ws.length m.ws.length,m.st,m.la.c,m.la.k,m.la.a,.int .u64 m.la.was,.int .u64 m.la.put,m.la.ok]
attribute [local go_sem] zio

structure zaq (w:World) (p b:Nat) (m:Mem):Prop where
 ne:p≠b
 blk:w.heap[p]?=some (.cells (zio b m) 132 (0,0))
 row:w.heap[b]?=some (.cells (rowW m.ws) 81 (0,0))
 fit:m.fit
 few:m.ws.length<=2000
 stb:0<=m.st/\m.st<=1000000000
theorem Mem.ze4{m:Mem}(h:m.fit)(a:Int):0<=m.get a/\m.get a<18446744073709551616:=by
 unfold Mem.get;by_cases b:a.toNat<m.ws.length
 ·rw[List.getD_eq_getElem?_getD,List.getElem?_eq_getElem b];exact h _ (List.getElem_mem b)
 rw[List.getD_eq_getElem?_getD,List.getElem?_eq_none (by omega)];exact⟨by decide,by decide⟩
theorem zaq.cell{w:World}{p b:Nat}{m:Mem}(h:zaq w p b m){a:Int}(f:m.has a):w.cell? ⟨b,a.toNat,.none⟩=some (.int .u64 (m.get a)):=by
 have i:a.toNat<m.ws.length:=by have:=f.1;have:=f.2;omega
 refine(zac h.row a.toNat).trans ?_;simp[rowW,Mem.get,i]
theorem zvd(p b:Nat)(m:Mem)(a:Int)(w:World)(h:zaq w p b m)(j:m.has a):
  Calls Tryz.prog 63 #[some p,a] w fun e w'=>e= .returned (.bool true)/\w'=w:=by
 obtain⟨n,o,i⟩:=hidv m.ws.length;have q:w.cell? ⟨p,0,.none⟩=some (.slice (some ⟨b,0,.none⟩) n n):=by rw[i];exact zac h.blk 0
 have a0:(0:Int)<=a:=j.1;have l:a<(n:Int):=by rw[i];exact j.2
 clear i h j;go_in;go_wp2_with fail;go_ret;exact⟨rfl,rfl⟩
theorem znu(p b:Nat)(m:Mem)(a:Int)(w:World)(h:zaq w p b m)(i:m.has a):
  Calls Tryz.prog 197 #[some p,a] w fun e w'=>e= .returned (.tuple #[])/\w'=w:=by
 have h1:=hd' (zvd p b m a w h i);clear h i;go_in;go_wp2_with (go_at_call 63;refine h1.out.mono ?_;rintro r j ⟨rfl,rfl⟩);refine bodyPost_end (results_none rfl _ _ _) rfl ⟨rfl,rfl⟩
def accV (a:Acc):Value:= .agg #[a.c,a.k,a.a,.int .u64 a.was,.int .u64 a.put,a.ok]
theorem znh(p b:Nat)(m:Mem)(a:Acc)(w:World)(h:zaq w p b m)(hs:m.st<1000000000):
  Calls Tryz.prog 198 #[some p,.agg #[a.c,a.k,a.a,.int .u64 a.was,.int .u64 a.put,a.ok]] w fun e w'=>e= .returned (.tuple #[])/\zaq w' p b ⟨m.ws,m.st+1,a⟩/\Only (fun k=>k=p) w w':=by
 have y:IntKind.i64.wrap (m.st+1)=m.st+1:=by rw[IntKind.wrap_i64];have:=h.stb;omega
 have lp:p<w.heap.size:=(Array.getElem?_eq_some_iff.1 h.blk).1;have lb:b<w.heap.size:=(Array.getElem?_eq_some_iff.1 h.row).1;go_in;go_upto_region 1 with fail;have hb:=(Below.refl w.heap.size w).alloc lr (.cells #[a.c,a.k,a.a,.int .u64 a.was,.int .u64 a.put,a.ok] 116);have n:=heap_alloc_new w (.cells #[a.c,a.k,a.a,.int .u64 a.was,.int .u64 a.put,a.ok] 116);generalize w.alloc (.cells #[a.c,a.k,a.a,.int .u64 a.was,.int .u64 a.put,a.ok] 116)=V at *;obtain⟨E,s,j⟩:=hidv w.heap.size;simp only[<-j]at n ⊢;have r:p≠E:=by omega
 clear j;have l:=(hb.block p lp).trans h.blk;have o:=zac l;have z:=zax l;have q:=zac n;go_wp2_with fail;refine bodyPost_end (results_none rfl _ _ _) rfl ⟨rfl,⟨h.ne,?_,?_,h.fit,h.few,?_⟩,?_⟩
 ·rw[heap_setCell_same _ p 7 _ _ _ (heap_setCell_same _ p 6 _ _ _ (heap_setCell_same _ p 5 _ _ _ (heap_setCell_same _ p 4 _ _ _ (heap_setCell_same _ p 3 _ _ _ (heap_setCell_same _ p 2 _ _ _ (heap_setCell_same _ p 1 _ _ _ l))))))];rfl
 ·have i:b≠p:=fun e=>h.ne e.symm;exact(Below.heap_setCell _ ⟨p,7,.none⟩ _ b i).trans ((Below.heap_setCell _ ⟨p,6,.none⟩ _ b i).trans ((Below.heap_setCell _ ⟨p,5,.none⟩ _ b i).trans ((Below.heap_setCell _ ⟨p,4,.none⟩ _ b i).trans ((Below.heap_setCell _ ⟨p,3,.none⟩ _ b i).trans ((Below.heap_setCell _ ⟨p,2,.none⟩ _ b i).trans ((Below.heap_setCell _ ⟨p,1,.none⟩ _ b i).trans ((hb.block b lb).trans h.row)))))))
 ·have:=h.stb;dsimp only;omega
 exact((((((((Only.of_below (F:=fun k=>k=p) hb).setCell (.inl rfl) _).setCell (.inl rfl) _).setCell (.inl rfl) _).setCell (.inl rfl) _).setCell (.inl rfl) _).setCell (.inl rfl) _).setCell (.inl rfl) _)
theorem zc1(p b:Nat)(m:Mem)(c a:Int)(w:World)(h:zaq w p b m)(l:m.has a)(hs:m.st<1000000000):
  Calls Tryz.prog 186 #[some p,c,a] w fun e w'=>e= .returned (.int .u64 (m.get a))/\zaq w' p b (m.load c a)/\Only (fun k=>k=p) w w':=by
 have h1:=hd' (znu p b m a w h l);have h2:=hd' (fun x:Acc=>znh p b m x w h hs);obtain⟨n,y,i⟩:=hidv m.ws.length;have B:w.cell? ⟨p,0,.none⟩=some (.slice (some ⟨b,0,.none⟩) n n):=by rw[i];exact zac h.blk 0
 have D:=h.cell l;have a0:(0:Int)<=a:=l.1;have t:a<(n:Int):=by rw[i];exact l.2
 replace i:=hd' i;go_in;go_wp2_with (first|(go_at_call 197;refine h1.out.mono ?_;rintro r z ⟨rfl,s⟩;obtain rfl:=s.symm)|(go_at_call 198;refine(h2.out ⟨c,0,a,m.get a,0,true⟩).mono ?_;rintro r q ⟨rfl,j,o⟩;have C:q.cell? ⟨p,0,.none⟩=some (.slice (some ⟨b,0,.none⟩) n n):=(by rw[i.out];exact zac j.blk 0);have E:q.cell? ⟨b,a.toNat,.none⟩=some (.int .u64 (m.get a)):=j.cell (m:=⟨m.ws,m.st+1,⟨c,0,a,m.get a,0,true⟩⟩) l));go_ret;exact⟨rfl,j,o⟩
theorem zaq.put{w:World}{p b:Nat}{m:Mem}(h:zaq w p b m){a x:Int}(j:m.has a)(i:0<=x/\x<18446744073709551616):zaq (w.setCell ⟨b,a.toNat,.none⟩ (.int .u64 x)) p b ⟨m.ws.set a.toNat x,m.st,m.la⟩:=by
 refine⟨h.ne,?_,?_,?_,by simpa using h.few,h.stb⟩
 ·rw[Below.heap_setCell _ ⟨b,a.toNat,.none⟩ _ p h.ne,h.blk];simp[zio]
 ·rw[heap_setCell_same w b a.toNat _ _ _ h.row];simp only[rowW,List.map_set,List.setIfInBounds_toArray]
 intro y f;rcases List.mem_or_eq_of_mem_set f with f|rfl
 ·exact h.fit y f
 exact i
theorem zba(p b:Nat)(m:Mem)(c a x:Int)(w:World)(h:zaq w p b m)(l:m.has a)(t:0<=x/\x<18446744073709551616)(hs:m.st<1000000000):
  Calls Tryz.prog 185 #[some p,c,a,.int .u64 x] w fun e w'=>e= .returned (.tuple #[])/\zaq w' p b (m.store c a x)/\Only (fun k=>k=p\/k=b) w w':=by
 have h1:=hd' (znu p b m a w h l);have h2:=hd' (fun x:Acc=>znh p b m x w h hs);obtain⟨n,z,i⟩:=hidv m.ws.length;have C:w.cell? ⟨p,0,.none⟩=some (.slice (some ⟨b,0,.none⟩) n n):=by rw[i];exact zac h.blk 0
 have E:=h.cell l;have a0:(0:Int)<=a:=l.1;have y:a<(n:Int):=by rw[i];exact l.2
 replace i:=hd' i;go_in;go_wp2_with (first|(go_at_call 197;refine h1.out.mono ?_;rintro r B ⟨rfl,s⟩;obtain rfl:=s.symm)|(go_at_call 198;refine(h2.out ⟨c,1,a,m.get a,x,true⟩).mono ?_;rintro r q ⟨rfl,j,o⟩;have D:q.cell? ⟨p,0,.none⟩=some (.slice (some ⟨b,0,.none⟩) n n):=(by rw[i.out];exact zac j.blk 0);have G:q.cell? ⟨b,a.toNat,.none⟩=some (.int .u64 (m.get a)):=j.cell (m:=⟨m.ws,m.st+1,⟨c,1,a,m.get a,x,true⟩⟩) l;have H:=zax j.row));refine bodyPost_end (results_none rfl _ _ _) rfl ⟨rfl,?_,?_⟩
 ·exact j.put (m:=⟨m.ws,m.st+1,⟨c,1,a,m.get a,x,true⟩⟩) l t
 exact(Only.trans (F:=fun k=>k=p\/k=b) (Only.refl _ _) o (fun _ _ h=>.inl h)).setCell (.inl (.inr rfl)) _
theorem zff(p b:Nat)(m:Mem)(c a was x:Int)(w:World)(h:zaq w p b m)(q:m.has a)(y:0<=x/\x<18446744073709551616)(hs:m.st<1000000000):
  Calls Tryz.prog 189 #[some p,c,a,.int .u64 was,.int .u64 x] w fun e w'=>e= .returned (.bool (decide (m.get a=was)))/\zaq w' p b (m.swap c a was x)/\Only (fun k=>k=p\/k=b) w w':=by
 have h1:=hd' (znu p b m a w h q);have h2:=hd' (fun x:Acc=>znh p b m x w h hs);obtain⟨n,C,l⟩:=hidv m.ws.length;have D:w.cell? ⟨p,0,.none⟩=some (.slice (some ⟨b,0,.none⟩) n n):=by rw[l];exact zac h.blk 0
 have G:=h.cell q;have a0:(0:Int)<=a:=q.1;have B:a<(n:Int):=by rw[l];exact q.2
 replace l:=hd' l;by_cases i:m.get a=was
 ·rw[decide_eq_true i];have s:m.swap c a was x=⟨m.ws.set a.toNat x,m.st+1,⟨c,2,a,m.get a,x,true⟩⟩:=by unfold Mem.swap;rw[if_pos i,decide_eq_true i]
  rw[s];clear s;have hb:(m.get a==was)=true:=by simpa using i
  clear i;go_in;go_wp2_with (first|(go_at_call 197;refine h1.out.mono ?_;rintro r z ⟨rfl,i⟩;obtain rfl:=i.symm)|(go_at_call 198;refine(h2.out ⟨c,2,a,m.get a,x,true⟩).mono ?_;rintro r t ⟨rfl,j,o⟩;have E:t.cell? ⟨p,0,.none⟩=some (.slice (some ⟨b,0,.none⟩) n n):=(by rw[l.out];exact zac j.blk 0);have H:t.cell? ⟨b,a.toNat,.none⟩=some (.int .u64 (m.get a)):=j.cell (m:=⟨m.ws,m.st+1,⟨c,2,a,m.get a,x,true⟩⟩) q;have I:=zax j.row));go_returns;refine⟨rfl,?_,?_⟩
  ·exact j.put (m:=⟨m.ws,m.st+1,⟨c,2,a,m.get a,x,true⟩⟩) q y
  exact(Only.trans (F:=fun k=>k=p\/k=b) (Only.refl _ _) o (fun _ _ h=>.inl h)).setCell (.inl (.inr rfl)) _
 rw[decide_eq_false i];have s:m.swap c a was x=⟨m.ws,m.st+1,⟨c,2,a,m.get a,x,false⟩⟩:=by unfold Mem.swap;rw[if_neg i,decide_eq_false i]
 rw[s];clear s;have hb:(m.get a==was)=false:=by simpa using i
 clear i;go_in;go_wp2_with (first|(go_at_call 197;refine h1.out.mono ?_;rintro r z ⟨rfl,i⟩;obtain rfl:=i.symm)|(go_at_call 198;refine(h2.out ⟨c,2,a,m.get a,x,false⟩).mono ?_;rintro r t ⟨rfl,j,o⟩));go_returns;exact⟨rfl,j,Only.trans (F:=fun k=>k=p\/k=b) (Only.refl _ _) o (fun _ _ h=>.inl h)⟩
end

section

attribute [local go_sem] rowW zio

open Go.RowKit

theorem zfz(x:Int)(w:World)(h0:0<=x)(h1:x<18446744073709551616):
  Calls Tryz.prog 30 #[.int .u64 x] w fun e w'=>Below w.heap.size w w'/\e= .returned (.tuple (if (za8 (zbx x) (za2 x 0)==x)=true then #[.int .i64 (zbx x),.int .i64 (za2 x 0)] else #[.int .i64 0,.int .i64 0])):=by
 have i:=fun w=>ze8 x 0 w h0 h1 (by omega);have b:=fun w=>zqi x w h0 h1;generalize zbx x=k at *;generalize za2 x 0=A at *;by_cases h2:za8 k A=x
 ·have j:(za8 k A !=x)=false:=by simpa using h2
  have h3:(za8 k A==x)=true:=by simpa using h2
  rw[h3,if_pos rfl];clear h2 h3;go_in;go_wp2_with (first|(go_at_call 61;refine(b _).mono ?_;rintro e l ⟨rfl,rfl⟩)|(go_at_call 62;refine(i _).mono ?_;rintro e l ⟨rfl,rfl⟩)|(go_at_call 59;refine(zgn _ _ _).mono ?_;rintro e m ⟨rfl,hb⟩));go_ret2;exact⟨hb,rfl⟩
 have j:(za8 k A !=x)=true:=by simpa using h2
 have h3:(za8 k A==x)=false:=by simpa using h2
 rw[h3,if_neg Bool.false_ne_true];clear h2 h3;go_in;go_wp2_with (first|(go_at_call 61;refine(b _).mono ?_;rintro e l ⟨rfl,rfl⟩)|(go_at_call 62;refine(i _).mono ?_;rintro e l ⟨rfl,rfl⟩)|(go_at_call 59;refine(zgn _ _ _).mono ?_;rintro e m ⟨rfl,hb⟩));go_ret2;exact⟨hb,rfl⟩
end

end Go.Proofs.YtedcnffebdpmmaaGreat
