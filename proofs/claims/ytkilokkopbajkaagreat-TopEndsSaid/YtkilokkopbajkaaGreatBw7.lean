
import Derived.Test.YtkilokkopbajkaaGreatBw6

set_option linter.all false
namespace Go.Proofs.YtkilokkopbajkaaGreat

section
inductive Acts (c:Int) (m:Mem):Mem->Prop
 |load {a:Int} (h:m.has a):Acts c m (m.load c a)
 |store {a x:Int} (h:m.has a) (hx:0<=x/\x<18446744073709551616):Acts c m (m.store c a x)
 |swap {a y x:Int} (h:m.has a) (hx:0<=x/\x<18446744073709551616):Acts c m (m.swap c a y x)
theorem Acts.st{c:Int}{m m':Mem}(h:Acts c m m'):m'.st=m.st+1:=by cases h<;>rfl
theorem Acts.len{c:Int}{m m':Mem}(h:Acts c m m'):m'.ws.length=m.ws.length:=by cases h<;>simp
theorem Acts.fits{s:Sh}{c:Int}{m m':Mem}(h:Acts c m m')(b:Fits s m):Fits s m':=b.dG h.len
theorem xQ{m:Mem}{k:Nat}{x st:Int}{la:Acc}(b:m.fit)(f:0<=x/\x<18446744073709551616):Mem.fit ⟨m.ws.set k x,st,la⟩:=by
 intro y i;rcases List.mem_or_eq_of_mem_set i with h|h
 .exact b y h
 rw[h];exact f
theorem Acts.fit{c:Int}{m m':Mem}(h:Acts c m m')(b:m.fit):m'.fit:=by
 cases h with
 |load _=>exact b
 |store _ f=>exact xQ b f;|swap _ f=>
  unfold Mem.swap;split
  .exact xQ b f
  exact b
theorem Acts.of{c c':Int}{m m':Mem}(h:Acts c m m')(e:c=c'):Acts c' m m':=e▸h
theorem Fits.magA{s:Sh}{m:Mem}(h:Fits s m){x i:Int}(b:0<=x/\x<s.c)(hi:0<=i/\i<s.m):m.has (kC s.p s.c s.m x i):=by rw[(h.mag b hi).1];exact(h.mag b hi).2
theorem Fits.RE{s:Sh}{m:Mem}(h:Fits s m){x i:Int}(b:0<=x/\x<s.p)(hi:0<=i/\i<16):m.has (bB s.p s.c s.m x i):=by rw[(h.slot b hi).1];exact(h.slot b hi).2
theorem Fits.OD{s:Sh}{m:Mem}(h:Fits s m){x:Int}(b:0<=x/\x<s.p):m.has (pA s.p s.c s.m x):=by rw[(h.page b).1];exact(h.page b).2
theorem Fits.uD{s:Sh}{m:Mem}(h:Fits s m){x:Int}(b:0<=x/\x<s.c):m.has (uA s.p s.c s.m x):=by rw[(h.status b).1];exact(h.status b).2
theorem nG:(0:Int)<=0/\(0:Int)<18446744073709551616:=by decide
theorem pM(k:Int):0<=BB k/\BB k<18446744073709551616:=IE _ _
theorem LM(k:Int):0<=wayW k/\wayW k<18446744073709551616:=IE _ _
theorem zx7(k:Int):0<=CE k/\CE k<18446744073709551616:=IE _ _
theorem bM(k:Int):0<=WC k/\WC k<18446744073709551616:=sF _ _ _
def DG (s:Sh) (t:Tk):Int:=if t.done=true then 0 else if t.hit=true then 1 else s.m-t.i+1
theorem yey{s:Sh}{t:Tk}(h:tkOk s t)(hd:t.done=false):1<=DG s t:=by
 have:=h.cl hd;unfold DG;rw[jN (by rw[hd];decide)];split<;>omega
theorem dZ{s:Sh}{t:Tk}{m:Mem}(h:tkOk s t)(hd:t.done=false)(j:Fits s m):Acts t.c m (XC s t m).2/\(XC s t m).1.c=t.c/\DG s (XC s t m).1+1<=DG s t:=by
 have hc:=h.cl hd;have f:=j.magA hc.1 hc.2;have i:¬t.done=true:=by rw[hd];decide
 unfold XC DG;dsimp only;rw[jN i];by_cases b:t.hit=true
 .rw[jP b];refine⟨.store f nG,rfl,?_⟩;simp only[if_true,b,hd,Bool.false_eq_true,if_false];omega
 rw[jN b];split
 .refine⟨.load f,rfl,?_⟩;simp only[if_true,b,hd,Bool.false_eq_true,if_false];omega
 refine⟨.load f,rfl,?_⟩;simp only[b,hd,Bool.false_eq_true,if_false,decide_eq_true_eq];split<;>omega
theorem MZ(s:Sh)(c k:Int)(b:0<=s.m):DG s (sC s c k)<=s.m+1/\(sC s c k).c=c:=by
 refine⟨?_,rfl⟩;unfold DG sC;dsimp only;split
 .omega
 rw[jN (by decide)];omega
theorem z1k{s:Sh}{t:Tk}(h:tkOk s t):0<=DG s t:=by
 rcases jB t.done with hd|hd
 .unfold DG;rw[jP hd];omega
 have:=yey h hd;omega
def eG (s:Sh) (t:Pu):Int:=if t.done=true then 0 else if t.hit=true then 1 else s.m-t.i+1
theorem NZ{s:Sh}{t:Pu}(h:puOk s t)(hd:t.done=false):1<=eG s t:=by
 have:=h.cl hd;unfold eG;rw[jN (by rw[hd];decide)];split<;>omega
theorem jZ{s:Sh}{t:Pu}{m:Mem}(h:puOk s t)(hd:t.done=false)(j:Fits s m):Acts t.c m (YC s t m).2/\(YC s t m).1.c=t.c/\eG s (YC s t m).1+1<=eG s t:=by
 have hc:=h.cl hd;have f:=j.magA hc.1 hc.2;have i:¬t.done=true:=by rw[hd];decide
 unfold YC eG;dsimp only;rw[jN i];by_cases b:t.hit=true
 .rw[jP b];refine⟨.store f (mK _ _ (by decide) (by simp)),rfl,?_⟩;simp only[if_true,b,hd,Bool.false_eq_true,if_false];omega
 rw[jN b];split
 .refine⟨.load f,rfl,?_⟩;simp only[if_true,b,hd,Bool.false_eq_true,if_false];omega
 refine⟨.load f,rfl,?_⟩;simp only[b,hd,Bool.false_eq_true,if_false,decide_eq_true_eq];split<;>omega
theorem yfa(s:Sh)(c pg sl k:Int)(b:0<=s.m):eG s (nD s c pg sl k)<=s.m+1/\(nD s c pg sl k).c=c:=by
 refine⟨?_,rfl⟩;unfold eG nD;dsimp only;split
 .omega
 rw[jN (by decide)];omega
theorem YW{s:Sh}{t:Pu}(h:puOk s t):0<=eG s t:=by
 rcases jB t.done with hd|hd
 .unfold eG;rw[jP hd];omega
 have:=NZ h hd;omega
def yD (s:Sh) (t:Sc):Int:=if t.done=true then 0 else (s.p-t.many-1)*33+(if t.next=0 then 33 else if t.next=1 then 2*(mA t.k-t.i) else 2*(mA t.k-t.i)-1)
theorem yeo{s:Sh}{t:Sc}(h:scOk s t)(hd:t.done=false):1<=yD s t:=by
 have:=h.cl hd;unfold yD;rw[jN (by rw[hd];decide)];split<;>(try split)<;>omega
theorem MT{s:Sh}{t:Sc}(h:t.many<s.p):yD s (t.turn s)<=(s.p-t.many-1)*33/\(t.turn s).c=t.c:=by
 refine⟨?_,rfl⟩;unfold yD Sc.turn;dsimp only;simp only[decide_eq_true_eq,if_true];split<;>omega
theorem xZ{s:Sh}{t:Sc}(hd:t.done=false)(h:t.many<s.p)(hi:t.i<mA t.k):yD s (t.miss s)<=(s.p-t.many-1)*33+2*(mA t.k-t.i)-2/\(t.miss s).c=t.c:=by
 unfold Sc.miss;split
 .have:=MT (t:={t with i:=t.i+1,next:=1}) h;dsimp only at this;exact⟨by omega,this.2⟩
 refine⟨?_,rfl⟩;unfold yD;dsimp only;rw[jN (by rw[hd];decide),jN (by decide),jP rfl];omega
theorem LY{s:Sh}{t:Sc}{m:Mem}(h:scOk s t)(hd:t.done=false)(r:Fits s m):Acts t.c m (xD s t m).2/\(xD s t m).1.c=t.c/\yD s (xD s t m).1+1<=yD s t:=by
 obtain⟨hc,B,z,j,hi,E⟩:=h.cl hd;have C:=UD B;have n:0<=t.page s/\t.page s<s.p:=⟨Int.emod_nonneg _ (by omega),Int.emod_lt_of_pos _ (by omega)⟩;have q:=r.OD n;have f:=r.RE (i:=t.i) n (by omega);have b:¬t.done=true:=by rw[hd];decide
 have D:=MT (t:=t) (s:=s) j.2;have l:=xZ (t:=t) (s:=s) hd j.2 hi.2;have y:yD s t=(s.p-t.many-1)*33+(if t.next=0 then 33 else if t.next=1 then 2*(mA t.k-t.i) else 2*(mA t.k-t.i)-1):=by unfold yD;rw[jN b]
 rw[y];unfold xD;dsimp only;rw[jN b];by_cases o:t.next=0
 .rw[jP o,jP o];dsimp only;refine⟨.load q,?_,?_⟩
  .split
   .rfl
   exact D.2
  split
  .unfold yD;dsimp only;rw[jN b,jN (by decide),jP rfl];omega
  omega
 rw[jN o,jN o];by_cases n1:t.next=1
 .rw[jP n1,jP n1];dsimp only;refine⟨.load f,?_,?_⟩
  .split
   .rfl
   exact l.2
  split
  .unfold yD;dsimp only;rw[jN b,jN (by decide),jN (by decide)];omega
  omega
 rw[jN n1,jN n1];dsimp only;refine⟨.swap f (LM _),?_,?_⟩
 .split
  .rfl
  exact l.2
 split
 .unfold yD;dsimp only;rw[jP rfl];omega
 omega
theorem yem(s:Sh)(c k f:Int)(b:1<=s.p):yD s (eD s c k f)<=33*s.p/\(eD s c k f).c=c:=by
 refine⟨?_,rfl⟩;unfold yD eD;dsimp only;split
 .omega
 rw[jP rfl];omega
theorem z1y{s:Sh}{t:Sc}(h:scOk s t):0<=yD s t:=by
 rcases jB t.done with hd|hd
 .unfold yD;rw[jP hd];omega
 have:=yeo h hd;omega
def BE (s:Sh) (t:Pc):Int:=if t.done=true then 0 else 2*(s.p-t.many)-(if t.empty=true then 1 else 0)
theorem LZ{s:Sh}{t:Pc}(h:pcOk s t)(hd:t.done=false):1<=BE s t:=by
 have:=h.cl hd;unfold BE;rw[jN (by rw[hd];decide)];split<;>omega
theorem z94{s:Sh}{t:Pc}{m:Mem}(h:pcOk s t)(hd:t.done=false)(l:Fits s m):Acts t.c m (ZD s t m).2/\(ZD s t m).1.c=t.c/\BE s (ZD s t m).1+1<=BE s t:=by
 obtain⟨hc,n,o⟩:=h.cl hd;have i:0<=t.page s/\t.page s<s.p:=⟨Int.emod_nonneg _ (by omega),Int.emod_lt_of_pos _ (by omega)⟩;have f:=l.OD i;have b:¬t.done=true:=by rw[hd];decide
 have j:BE s t=2*(s.p-t.many)-(if t.empty=true then 1 else 0):=by unfold BE;rw[jN b]
 rw[j];unfold ZD;dsimp only;rw[jN b];cases he:t.empty
 .rw[jP rfl];dsimp only;refine⟨.load f,?_,?_⟩
  .split<;>rfl
  split
  .unfold BE;dsimp only;rw[jN b,jP rfl,jN (by decide)];omega
  unfold BE;dsimp only;simp only[decide_eq_true_eq,Bool.false_eq_true,if_false];split<;>omega
 rw[jN (by decide)];dsimp only;refine⟨.swap f (bM _),?_,?_⟩
 .split<;>rfl
 split
 .unfold BE;dsimp only;simp only[if_true];omega
 unfold BE;dsimp only;simp only[decide_eq_true_eq,Bool.false_eq_true,if_false,if_true];split<;>omega
theorem TZ(s:Sh)(c f:Int)(b:1<=s.p):BE s (mE s c f)<=2*s.p/\(mE s c f).c=c:=by
 refine⟨?_,rfl⟩;unfold BE mE;dsimp only;split
 .omega
 rw[jN (by decide)];omega
theorem zz7{s:Sh}{t:Pc}(h:pcOk s t):0<=BE s t:=by
 rcases jB t.done with hd|hd
 .unfold BE;rw[jP hd];omega
 have:=LZ h hd;omega
def ID (t:Sp):Int:=if t.done=true then 0 else if t.back=true then t.i else 2*mA t.k-t.i-1
theorem yeq{s:Sh}{t:Sp}(h:spOk s t)(hd:t.done=false):1<=ID t:=by
 have:=h.cl hd;have h2:=UD this.2.2.1;unfold ID;rw[jN (by rw[hd];decide)];split
 .rename_i hb;have:=this.2.2.2.2 hb;omega
 omega
theorem CT{s:Sh}{t:Sp}{m:Mem}(h:spOk s t)(hd:t.done=false)(n:Fits s m):Acts t.c m (SC s t m).2/\(SC s t m).1.c=t.c/\ID (SC s t m).1+1<=ID t:=by
 obtain⟨hc,l,r,hi,hb⟩:=h.cl hd;have y:=UD r;have o:=n.OD l;have j:¬t.done=true:=by rw[hd];decide
 have q:ID t=if t.back=true then t.i else 2*mA t.k-t.i-1:=by unfold ID;rw[jN j]
 rw[q];unfold SC;rw[jN j];by_cases b:t.back=true
 .have hb:=hb b;have f:=n.RE (i:=t.i-1) l (by omega);rw[jP b,jP b];refine⟨.store f (pM _),rfl,?_⟩;unfold ID;dsimp only;simp only[decide_eq_true_eq,b,if_true];split<;>omega
 rw[jN b,jN b];by_cases p:t.i=mA t.k
 .rw[jP p];refine⟨.store o (bM _),rfl,?_⟩;unfold ID;dsimp only;rw[jP rfl];omega
 have f:=n.RE (i:=t.i) l (by omega);rw[jN p];dsimp only;refine⟨.swap f (LM _),?_,?_⟩
 .split<;>rfl
 split
 .unfold ID;dsimp only;rw[jN j,jN b];omega
 unfold ID;dsimp only;simp only[decide_eq_true_eq,if_true];split<;>omega
theorem qU(s:Sh)(c pg k:Int):ID (VB s c pg k)<=31/\(VB s c pg k).c=c:=by
 refine⟨?_,rfl⟩;unfold ID VB;dsimp only;split
 .omega
 rename_i h;have h:0<mA k:=by
  by_cases b:0<mA k
  .exact b
  simp[b]at h
 have:=UD h;rw[jN (by decide)];omega
theorem TP{s:Sh}{t:Sp}(h:spOk s t):0<=ID t:=by
 rcases jB t.done with hd|hd
 .unfold ID;rw[jP hd];omega
 have:=yeq h hd;omega
def NE (t:Bn):Int:=if t.done=true then 0 else if t.bound=true then t.i else 16-t.i+mA t.k
theorem yeg{s:Sh}{t:Bn}(h:bnOk s t)(hd:t.done=false):1<=NE t:=by
 have:=h.cl hd;unfold NE;rw[jN (by rw[hd];decide)];split
 .rename_i hb;have:=this.2.2.2.2 hb;omega
 omega
theorem WY{s:Sh}{t:Bn}{m:Mem}(h:bnOk s t)(hd:t.done=false)(n:Fits s m):Acts t.c m (YD s t m).2/\(YD s t m).1.c=t.c/\NE (YD s t m).1+1<=NE t:=by
 obtain⟨hc,l,r,hi,hb⟩:=h.cl hd;have y:=UD r;have o:=n.OD l;have f:¬t.done=true:=by rw[hd];decide
 have q:NE t=if t.bound=true then t.i else 16-t.i+mA t.k:=by unfold NE;rw[jN f]
 rw[q];unfold YD;rw[jN f];by_cases b:t.bound=true
 .have hb:=hb b;have j:=n.RE (i:=t.i) l (by omega);rw[jP b,jP b];refine⟨.store j (pM _),rfl,?_⟩;unfold NE;dsimp only;simp only[decide_eq_true_eq,b,if_true];split<;>omega
 rw[jN b,jN b];by_cases p:t.i=16
 .rw[jP p];refine⟨.store o (sF _ _ _),rfl,?_⟩;unfold NE;dsimp only;rw[jN f,jP rfl];omega
 have j:=n.RE (i:=t.i) l (by omega);rw[jN p];refine⟨.store j ?_,rfl,?_⟩
 .split
  .exact LM _
  exact nG
 unfold NE;dsimp only;rw[jN f,jN b];omega
theorem XZ(s:Sh)(c pg k:Int):NE (mC s c pg k)<=32/\(mC s c pg k).c=c:=by
 refine⟨?_,rfl⟩;unfold NE mC;dsimp only;split
 .omega
 rename_i h;have h:0<mA k:=by
  by_cases b:0<mA k
  .exact b
  simp[b]at h
 have:=UD h;rw[jN (by decide)];omega
theorem zz0{s:Sh}{t:Bn}(h:bnOk s t):0<=NE t:=by
 rcases jB t.done with hd|hd
 .unfold NE;rw[jP hd];omega
 have:=yeg h hd;omega
inductive PW
 |empty
 |held (o:Int)
 |super (k b:Int)
 |large (n:Int)
 |body (h:Int)
 deriving DecidableEq
inductive SW
 |none
 |opened (k:Int)
 |way (c:Int)
 |taken (k:Int)
 deriving DecidableEq
inductive MW
 |none
 |entry (p i k:Int)
 deriving DecidableEq
inductive TW
 |unused
 |live
 |dead
 |owned (a:Int)
 |done
 deriving DecidableEq
def PW.enc:PW->Int
 |.empty=>0
 |.held o=>QA 1 o 0
 |.super k b=>QA 2 k b
 |.large n=>QA 3 n 0
 |.body h=>QA 4 h 0
def SW.enc:SW->Int
 |.none=>0
 |.opened k=>VA 1 k
 |.way c=>VA 2 c
 |.taken k=>VA 3 k
def MW.enc:MW->Int
 |.none=>0
 |.entry p i k=>putV 1 [p,i,k]
def TW.enc:TW->Int
 |.unused=>ZA 0 0
 |.live=>ZA 1 0
 |.dead=>ZA 2 0
 |.owned a=>ZA 3 a
 |.done=>ZA 4 0
def PW.fit (s:Sh) (p:Int):PW->Prop
 |.empty=>True
 |.held o=>(0<=p/\p<s.p)/\0<=o/\o<s.c
 |.super k b=>(0<=p/\p<s.p)/\(0<=k/\k<=3)/\0<=b/\b<s.c
 |.large n=>(0<=p/\p<s.p)/\1<=n/\n<=8/\n<=s.p-p
 |.body h=>(0<=p/\p<s.p)/\0<=h/\h<p/\p-8<h
def SW.fit (s:Sh):SW->Prop
 |.none=>True
 |.opened k=>0<=k/\k<=3
 |.way c=>0<=c/\c<s.c
 |.taken k=>0<=k/\k<=3
def MW.fit (s:Sh):MW->Prop
 |.none=>True
 |.entry p i k=>(0<=p/\p<s.p)/\(0<=k/\k<=3)/\0<=i/\i<mA k
def TW.fit (s:Sh):TW->Prop
 |.owned a=>0<=a/\a<s.c
 |_=>True
theorem ygb{o:Int}(h:0<=o/\o<=255):QA 1 o 0=1+16*o:=by
 have:bD 1 o 0=false:=by simp[bD]
 rw[QA,this,jN Bool.false_ne_true,AL _ _ _ h.1 h.2 (by omega) (by omega)];omega
theorem ygs{k b:Int}(h:0<=k/\k<=255)(h2:0<=b/\b<=255):QA 2 k b=2+16*k+4096*b:=by
 have:bD 2 k b=false:=by simp[bD]
 rw[QA,this,jN Bool.false_ne_true,AL _ _ _ h.1 h.2 h2.1 h2.2]
theorem ygp{o:Int}(h:0<=o/\o<=255):QA 3 o 0=3+16*o:=by
 have:bD 3 o 0=false:=by simp[bD]
 rw[QA,this,jN Bool.false_ne_true,AL _ _ _ h.1 h.2 (by omega) (by omega)];omega
theorem ygm{o:Int}(h:0<=o/\o<=255):QA 4 o 0=4+16*o:=by
 have:bD 4 o 0=false:=by simp[bD]
 rw[QA,this,jN Bool.false_ne_true,AL _ _ _ h.1 h.2 (by omega) (by omega)];omega
theorem ygq{o:Int}(h:0<=o/\o<=255):VA 1 o=1+16*o:=by
 have:QE 1 o=false:=by simp[QE]
 rw[VA,this,jN Bool.false_ne_true,MJ _ _ h.1 h.2]
theorem ygx{o:Int}(h:0<=o/\o<=255):VA 2 o=2+16*o:=by
 have:QE 2 o=false:=by simp[QE]
 rw[VA,this,jN Bool.false_ne_true,MJ _ _ h.1 h.2]
theorem ygn{o:Int}(h:0<=o/\o<=255):VA 3 o=3+16*o:=by
 have:QE 3 o=false:=by simp[QE]
 rw[VA,this,jN Bool.false_ne_true,MJ _ _ h.1 h.2]
theorem yfz{o:Int}(h:0<=o/\o<=255):ZA 3 o=3+16*o:=by
 have:bK 3 o=false:=by simp[bK]
 rw[ZA,this,jN Bool.false_ne_true,MJ _ _ h.1 h.2]
theorem yfg{p i k:Int}(h1:0<=p/\p<=255)(h2:0<=i/\i<=255)(h3:0<=k/\k<=255):putV 1 [p,i,k]=1+16*p+4096*i+1048576*k:=yf0 _ _ _ _ h1.1 h1.2 h2.1 h2.2 h3.1 h3.2
theorem FN(x:Int)(k a b:Int)(j:x=k+16*a+4096*b)(i:0<=k/\k<=15)(f:0<=a/\a<=255)(hb:0<=b/\b<=255):PA x=k/\nA x 0=a/\nA x 1=b:=by
 simp only[PA,nA,Int.pow_zero,Int.mul_one,Int.pow_one];omega
theorem yf5(x:Int)(a b c:Int)(i:x=1+16*a+4096*b+1048576*c)(f:0<=a/\a<=255)(hb:0<=b/\b<=255)(hc:0<=c/\c<=255):nA x 0=a/\nA x 1=b/\nA x 2=c:=by
 have:(256:Int)^2=65536:=by decide
 simp only[nA,Int.pow_zero,Int.mul_one,Int.pow_one,this];omega
def PW.kind:PW->Int
 |.empty=>0
 |.held _=>1
 |.super _ _=>2
 |.large _=>3
 |.body _=>4
def PW.pa:PW->Int
 |.empty=>0
 |.held o=>o
 |.super k _=>k
 |.large n=>n
 |.body h=>h
def PW.pb:PW->Int
 |.super _ b=>b
 |_=>0
variable {s:Sh}

theorem PW.OE{p:Int}(hs:mayB s.p s.c s.m=true){x:PW}(h:x.fit s p):x.enc=x.kind+16*x.pa+4096*x.pb/\(0<=x.pa/\x.pa<=255)/\(0<=x.pb/\x.pb<=255):=by
 have hb:=JA.1 hs;cases x<;>simp only[PW.fit]at h<;>simp only[PW.enc,PW.kind,PW.pa,PW.pb]
 .omega
 .rw[ygb (by omega)];omega
 .rw[ygs (by omega) (by omega)];omega
 .rw[ygp (by omega)];omega
 rw[ygm (by omega)];omega
theorem PW.xH(x:PW):0<=x.kind/\x.kind<=4:=by cases x<;>simp[PW.kind]
theorem PW.read{p:Int}(hs:mayB s.p s.c s.m=true){x:PW}(h:x.fit s p):PA x.enc=x.kind/\nA x.enc 0=x.pa/\nA x.enc 1=x.pb:=by
 obtain⟨e,h1,h2⟩:=PW.OE hs h;have:=x.xH;exact FN _ _ _ _ e (by omega) h1 h2
theorem PW.inj{p q:Int}(hs:mayB s.p s.c s.m=true){x y:PW}(h:x.fit s p)(n:y.fit s q)(e:x.enc=y.enc):x=y:=by
 obtain⟨a1,b,f⟩:=PW.read hs h;obtain⟨i,j,l⟩:=PW.read hs n;rw[e]at a1 b f;have o:x.kind=y.kind:=a1.symm.trans i;have r:x.pa=y.pa:=b.symm.trans j;have t:x.pb=y.pb:=f.symm.trans l;clear a1 b f i j l e h n;cases x<;>cases y<;>simp_all [PW.kind,PW.pa,PW.pb]
theorem PW.u64{p:Int}(hs:mayB s.p s.c s.m=true){x:PW}(h:x.fit s p):0<=x.enc/\x.enc<18446744073709551616:=by
 obtain⟨e,h1,h2⟩:=PW.OE hs h;have:=x.xH;omega
theorem PW.MH{p:Int}(hs:mayB s.p s.c s.m=true)(j:0<=p/\p<s.p){x:PW}(h:x.fit s p):LA s.p s.c s.m p x.enc=true:=by
 obtain⟨a1,f,i⟩:=PW.read hs h;have hb:=JA.1 hs;rw[LA,a1,f,i];have h1:QA x.kind x.pa x.pb=x.enc:=by cases x<;>first|rfl|decide
 have h2:0<=pA s.p s.c s.m p:=by unfold pA;rw[jP ⟨hs,BA.2 (by omega)⟩];omega
 have h3:qB s.p s.c p x.kind x.pa x.pb=true:=by
  cases x with
  |empty=>rfl
  |held o=>simp only[PW.fit]at h;show decide (o<s.c)=true;exact jT (by omega)
  |super k b=>simp only[PW.fit]at h;show (decide (k<4)&&decide (b<s.c))=true;rw[jT (by omega:k<4),jT (by omega:b<s.c)];rfl
  |large n=>simp only[PW.fit]at h;show (decide (1<=n)&&decide (n<=8)&&decide (n<=s.p-p))=true;rw[jT (by omega:1<=n),jT (by omega:n<=8),jT (by omega:n<=s.p-p)];rfl
  |body g=>simp only[PW.fit]at h;show (decide (g<p)&&decide (p-8<g))=true;rw[jT (by omega:g<p),jT (by omega:p-8<g)];rfl
 rw[h1,h3];simp[h2]
def SW.kind:SW->Int
 |.none=>0
 |.opened _=>1
 |.way _=>2
 |.taken _=>3
def SW.pa:SW->Int
 |.none=>0
 |.opened k=>k
 |.way c=>c
 |.taken k=>k
theorem SW.OE(hs:mayB s.p s.c s.m=true){x:SW}(h:x.fit s):x.enc=x.kind+16*x.pa/\(0<=x.pa/\x.pa<=255):=by
 have hb:=JA.1 hs;cases x<;>simp only[SW.fit]at h<;>simp only[SW.enc,SW.kind,SW.pa]
 .omega
 .rw[ygq (by omega)];omega
 .rw[ygx (by omega)];omega
 rw[ygn (by omega)];omega
theorem SW.xH(x:SW):0<=x.kind/\x.kind<=3:=by cases x<;>simp[SW.kind]
theorem SW.read(hs:mayB s.p s.c s.m=true){x:SW}(h:x.fit s):PA x.enc=x.kind/\nA x.enc 0=x.pa:=by
 obtain⟨e,h1⟩:=SW.OE hs h;have:=x.xH;have:=FN x.enc x.kind x.pa 0 (by omega) (by omega) h1 (by omega);exact⟨this.1,this.2.1⟩
theorem SW.inj(hs:mayB s.p s.c s.m=true){x y:SW}(h:x.fit s)(j:y.fit s)(e:x.enc=y.enc):x=y:=by
 obtain⟨a1,b⟩:=SW.read hs h;obtain⟨f,i⟩:=SW.read hs j;rw[e]at a1 b;have l:x.kind=y.kind:=a1.symm.trans f;have n:x.pa=y.pa:=b.symm.trans i;clear a1 b f i e h j;cases x<;>cases y<;>simp_all [SW.kind,SW.pa]
theorem SW.u64(hs:mayB s.p s.c s.m=true){x:SW}(h:x.fit s):0<=x.enc/\x.enc<18446744073709551616:=by
 obtain⟨e,h1⟩:=SW.OE hs h;have:=x.xH;omega
theorem MW.OE(hs:mayB s.p s.c s.m=true){p i k:Int}(h:(MW.entry p i k).fit s):(MW.entry p i k).enc=1+16*p+4096*i+1048576*k/\0<=p/\p<=63/\0<=i/\i<=15/\0<=k/\k<=3:=by
 have hb:=JA.1 hs;simp only[MW.fit]at h;have:=CC k;simp only[MW.enc];rw[yfg (by omega) (by omega) (by omega)];omega
theorem MW.read(hs:mayB s.p s.c s.m=true){p i k:Int}(h:(MW.entry p i k).fit s):nA (MW.entry p i k).enc 0=p/\nA (MW.entry p i k).enc 1=i/\nA (MW.entry p i k).enc 2=k:=by
 obtain⟨e,h1⟩:=MW.OE hs h;exact yf5 _ _ _ _ e (by omega) (by omega) (by omega)
theorem MW.MH(hs:mayB s.p s.c s.m=true){p i k:Int}(h:(MW.entry p i k).fit s):QC s.p s.c s.m (MW.entry p i k).enc=true:=by
 obtain⟨a1,b,f⟩:=MW.read hs h;have hb:=JA.1 hs;rw[QC,a1,b,f];simp only[MW.fit]at h;have h2:0<=pA s.p s.c s.m p:=by unfold pA;rw[jP ⟨hs,BA.2 (by omega)⟩];omega
 simp only[MW.enc,beq_self_eq_true,Bool.true_and,jC,decide_eq_true_eq];exact⟨h2,h.2.2.2⟩
theorem MW.pos(hs:mayB s.p s.c s.m=true){p i k:Int}(h:(MW.entry p i k).fit s):(MW.entry p i k).enc≠0:=by
 obtain⟨e,h1⟩:=MW.OE hs h;omega
theorem MW.inj(hs:mayB s.p s.c s.m=true){x y:MW}(h:x.fit s)(i:y.fit s)(e:x.enc=y.enc):x=y:=by
 cases x<;>cases y
 .rfl
 .exact absurd e.symm (MW.pos hs i)
 .exact absurd e (MW.pos hs h)
 obtain⟨a1,b,f⟩:=MW.read hs h;obtain⟨j,l,n⟩:=MW.read hs i;rw[e]at a1 b f;rw[<-a1,<- b,<- f,j,l,n]
theorem MW.u64(hs:mayB s.p s.c s.m=true){x:MW}(h:x.fit s):0<=x.enc/\x.enc<18446744073709551616:=by
 cases x
 .exact⟨Int.le_refl _,by decide⟩
 obtain⟨e,h1⟩:=MW.OE hs h;omega
theorem zya:QC s.p s.c s.m 0=false:=by
 have b:nA 0 0=0:=by decide
 have f:nA 0 1=0:=by decide
 have i:nA 0 2=0:=by decide
 rw[QC,b,f,i];rfl
def TW.kind:TW->Int
 |.unused=>0
 |.live=>1
 |.dead=>2
 |.owned _=>3
 |.done=>4
def TW.pa:TW->Int
 |.owned a=>a
 |_=>0
theorem TW.OE(hs:mayB s.p s.c s.m=true){x:TW}(h:x.fit s):x.enc=x.kind+16*x.pa/\(0<=x.pa/\x.pa<=255):=by
 have hb:=JA.1 hs;cases x<;>simp only[TW.fit]at h;case owned a=>simp only[TW.enc,TW.kind,TW.pa];rw[yfz (by omega)];omega
 all_goals decide
theorem TW.xH(x:TW):0<=x.kind/\x.kind<=4:=by cases x<;>simp[TW.kind]
theorem TW.read(hs:mayB s.p s.c s.m=true){x:TW}(h:x.fit s):XD x.enc=x.kind/\uD x.enc=x.pa:=by
 obtain⟨e,h1⟩:=TW.OE hs h;have:=x.xH;have:=FN x.enc x.kind x.pa 0 (by omega) (by omega) h1 (by omega);have b:iI x.enc=true:=by unfold iI;rw[this.1,this.2.1];cases x<;>simp[TW.kind,TW.pa,TW.enc]
 unfold XD uD;rw[jP b,jP b];exact⟨this.1,this.2.1⟩
theorem TW.inj(hs:mayB s.p s.c s.m=true){x y:TW}(h:x.fit s)(j:y.fit s)(e:x.enc=y.enc):x=y:=by
 obtain⟨a1,b⟩:=TW.read hs h;obtain⟨f,i⟩:=TW.read hs j;rw[e]at a1 b;have l:x.kind=y.kind:=a1.symm.trans f;have n:x.pa=y.pa:=b.symm.trans i;clear a1 b f i e h j;cases x<;>cases y<;>simp_all [TW.kind,TW.pa]
theorem TW.u64(hs:mayB s.p s.c s.m=true){x:TW}(h:x.fit s):0<=x.enc/\x.enc<18446744073709551616:=by
 obtain⟨e,h1⟩:=TW.OE hs h;have:=x.xH;omega
end

structure Ab where
 pg:Int->PW
 sl:Int->Int->SW
 mg:Int->Int->MW
 st:Int->TW
def up {α:Type} (f:Int->α) (a:Int) (v:α):Int->α:=λx=>if x=a then v else f x
def up2 {α:Type} (f:Int->Int->α) (a b:Int) (v:α):Int->Int->α:=λx y=>if x=a/\y=b then v else f x y
def Ab.page (σ:Ab) (p:Int) (v:PW):Ab:={ σ with pg:=up σ.pg p v}
def Ab.slot (σ:Ab) (p i:Int) (v:SW):Ab:={ σ with sl:=up2 σ.sl p i v}
def Ab.mag (σ:Ab) (c i:Int) (v:MW):Ab:={ σ with mg:=up2 σ.mg c i v}
def Ab.stat (σ:Ab) (c:Int) (v:TW):Ab:={ σ with st:=up σ.st c v}
theorem aJ{b:Type}(f:Int->b)(a:Int)(v:b):up f a v a=v:=jP rfl
theorem OG{b:Type}(f:Int->b){a x:Int}(h:x≠a)(v:b):up f a v x=f x:=jN h
theorem kI{i:Type}(f:Int->Int->i)(a b:Int)(v:i):up2 f a b v a b=v:=jP ⟨rfl,rfl⟩
theorem HG{i:Type}(f:Int->Int->i){a b x y:Int}(h:¬(x=a/\y=b))(v:i):up2 f a b v x y=f x y:=jN h
structure Rep (s:Sh) (m:Mem) (σ:Ab):Prop where
 fi:Fits s m
 pg:∀p,0<=p/\p<s.p->m.get (pA s.p s.c s.m p)=(σ.pg p).enc
 sl:∀p i,0<=p/\p<s.p->0<=i/\i<16->m.get (bB s.p s.c s.m p i)=(σ.sl p i).enc
 mg:∀c i,0<=c/\c<s.c->0<=i/\i<s.m->m.get (kC s.p s.c s.m c i)=(σ.mg c i).enc
 st:∀c,0<=c/\c<s.c->m.get (uA s.p s.c s.m c)=(σ.st c).enc
theorem rN{m m':Mem}(h:m'.ws=m.ws)(a:Int):m'.get a=m.get a:=by unfold Mem.get;rw[h]
theorem eN{m m':Mem}{a x:Int}(h:m'.ws=m.ws.set a.toNat x)(f:m.has a){b:Int}(hb:0<=b):m'.get b=if b=a then x else m.get b:=by
 have h1:=f.1;have h2:=f.2;unfold Mem.get;rw[h,List.getD_eq_getElem?_getD,List.getD_eq_getElem?_getD,List.getElem?_set];by_cases e:b=a
 .subst e;rw[jP rfl,jP (by omega),jP rfl];rfl
 rw[jN (by omega),jN e]
section

variable {s:Sh}{m m':Mem}{σ:Ab}

theorem Rep.may(h:Rep s m σ):mayB s.p s.c s.m=true:=h.fi.may
theorem Rep.same(h:Rep s m σ)(e:m'.ws=m.ws):Rep s m' σ:=
 ⟨h.fi.dG (by rw[e]),λp b=>(rN e _).trans (h.pg p b),λp i b hi=>(rN e _).trans (h.sl p i b hi),λc i hc hi=>(rN e _).trans (h.mg c i hc hi),λc hc=>(rN e _).trans (h.st c hc)⟩
theorem ixs(h:Fits s m):(∀p,0<=p/\p<s.p->pA s.p s.c s.m p=s.c+p)/\(∀p i,0<=p/\p<s.p->0<=i/\i<16->bB s.p s.c s.m p i=s.c+s.p+p*16+i)/\(∀c i,0<=c/\c<s.c->0<=i/\i<s.m->kC s.p s.c s.m c i=s.c+s.p+s.p*16+c*s.m+i)/\(∀c,0<=c/\c<s.c->uA s.p s.c s.m c=c):=
 ⟨λp b=>(h.page b).1,λp i b hi=>(h.slot b hi).1,λc i hc hi=>(h.mag hc hi).1,λc hc=>(h.status hc).1⟩
theorem MY{c c' i i' M:Int}(hi:0<=i/\i<M)(b:0<=i'/\i'<M)(e:c*M+i=c'*M+i'):c=c'/\i=i':=by
 have f:0<M:=by omega
 have h1:(c*M+i)/M=c:=by rw[Int.add_comm,Int.add_mul_ediv_right _ _ (by omega),Int.ediv_eq_zero_of_lt hi.1 hi.2];omega
 have h2:(c'*M+i')/M=c':=by rw[Int.add_comm,Int.add_mul_ediv_right _ _ (by omega),Int.ediv_eq_zero_of_lt b.1 b.2];omega
 have h3:c=c':=by rw[<-h1,<- h2,e]
 subst h3;exact⟨rfl,by omega⟩
theorem Rep.KE(h:Rep s m σ){p:Int}(o:0<=p/\p<s.p)(v:PW)(e:m'.ws=m.ws.set (pA s.p s.c s.m p).toNat v.enc):Rep s m' (σ.page p v):=by
 obtain⟨n,r,t,y⟩:=ixs h.fi;have hb:=h.fi.bd;have j:=λ{b}=>@eN m m' _ _ e (h.fi.OD o) b;rw[n p o]at j;refine⟨h.fi.dG (by rw[e];simp),λq f=>?_,λq i f hi=>?_,λc i hc hi=>?_,λc hc=>?_⟩
 .rw[n q f,j (by omega)];by_cases l:q=p
  .subst l;rw[jP rfl];show _=PW.enc (up _ _ _ _);rw[aJ]
  rw[jN (by omega)];show _=PW.enc (up _ _ _ _);rw[OG _ l,<- n q f];exact h.pg q f
 .rw[r q i f hi,j (by omega),jN (by omega),<- r q i f hi];exact h.sl q i f hi
 .have:=Int.mul_nonneg hc.1 (show 0<=s.m by omega);rw[t c i hc hi,j (by omega),jN (by omega),<- t c i hc hi];exact h.mg c i hc hi
 rw[y c hc,j (by omega),jN (by omega)];have:=h.st c hc;rw[y c hc]at this;exact this
theorem Rep.setSlot(h:Rep s m σ){p j:Int}(t:0<=p/\p<s.p)(r:0<=j/\j<16)(v:SW)(e:m'.ws=m.ws.set (bB s.p s.c s.m p j).toNat v.enc):Rep s m' (σ.slot p j v):=by
 obtain⟨y,o,z,B⟩:=ixs h.fi;have hb:=h.fi.bd;have l:=λ{b}=>@eN m m' _ _ e (h.fi.RE t r) b;rw[o p j t r]at l;refine⟨h.fi.dG (by rw[e];simp),λq f=>?_,λq i f hi=>?_,λc i hc hi=>?_,λc hc=>?_⟩
 .rw[y q f,l (by omega),jN (by omega),<- y q f];exact h.pg q f
 .rw[o q i f hi,l (by omega)];by_cases n:q=p/\i=j
  .obtain⟨rfl,rfl⟩:=n;rw[jP rfl];show _=SW.enc (up2 _ _ _ _ _ _);rw[kI]
  rw[jN (by omega)];show _=SW.enc (up2 _ _ _ _ _ _);rw[HG _ n,<- o q i f hi];exact h.sl q i f hi
 .have:=Int.mul_nonneg hc.1 (show 0<=s.m by omega);rw[z c i hc hi,l (by omega),jN (by omega),<- z c i hc hi];exact h.mg c i hc hi
 rw[B c hc,l (by omega),jN (by omega)];have:=h.st c hc;rw[B c hc]at this;exact this
theorem Rep.JO(h:Rep s m σ){x j:Int}(r:0<=x/\x<s.c)(o:0<=j/\j<s.m)(v:MW)(e:m'.ws=m.ws.set (kC s.p s.c s.m x j).toNat v.enc):Rep s m' (σ.mag x j v):=by
 obtain⟨y,z,t,B⟩:=ixs h.fi;have hb:=h.fi.bd;have n:=λ{b}=>@eN m m' _ _ e (h.fi.magA r o) b;have h0:=Int.mul_nonneg r.1 (show 0<=s.m by omega);rw[t x j r o]at n;refine⟨h.fi.dG (by rw[e];simp),λq f=>?_,λq i f hi=>?_,λc i hc hi=>?_,λc hc=>?_⟩
 .rw[y q f,n (by omega),jN (by omega),<- y q f];exact h.pg q f
 .rw[z q i f hi,n (by omega),jN (by omega),<- z q i f hi];exact h.sl q i f hi
 .have h1:=Int.mul_nonneg hc.1 (show 0<=s.m by omega);rw[t c i hc hi,n (by omega)];by_cases l:c=x/\i=j
  .obtain⟨rfl,rfl⟩:=l;rw[jP rfl];show _=MW.enc (up2 _ _ _ _ _ _);rw[kI]
  rw[jN (λe=>l (MY hi o (by omega)))];show _=MW.enc (up2 _ _ _ _ _ _);rw[HG _ l,<- t c i hc hi];exact h.mg c i hc hi
 rw[B c hc,n (by omega),jN (by omega)];have:=h.st c hc;rw[B c hc]at this;exact this
theorem Rep.UM(h:Rep s m σ){x:Int}(o:0<=x/\x<s.c)(v:TW)(e:m'.ws=m.ws.set (uA s.p s.c s.m x).toNat v.enc):Rep s m' (σ.stat x v):=by
 obtain⟨r,t,y,n⟩:=ixs h.fi;have hb:=h.fi.bd;have l:=λ{b}=>@eN m m' _ _ e (h.fi.uD o) b;rw[n x o]at l;refine⟨h.fi.dG (by rw[e];simp),λq f=>?_,λq i f hi=>?_,λc i hc hi=>?_,λc hc=>?_⟩
 .rw[r q f,l (by omega),jN (by omega),<- r q f];exact h.pg q f
 .rw[t q i f hi,l (by omega),jN (by omega),<- t q i f hi];exact h.sl q i f hi
 .have:=Int.mul_nonneg hc.1 (show 0<=s.m by omega);rw[y c i hc hi,l (by omega),jN (by omega),<- y c i hc hi];exact h.mg c i hc hi
 rw[n c hc,l (by omega)];by_cases j:c=x
 .subst j;rw[jP rfl];show _=TW.enc (up _ _ _ _);rw[aJ]
 rw[jN j];show _=TW.enc (up _ _ _ _);rw[OG _ j];have:=h.st c hc;rw[n c hc]at this;exact this
end

def ND (p:PW) (i:Int) (x:SW):Prop:=match p with
 |.held o=>x=.none\/(x=.way o/\0<=i/\i<16)
 |.super k _=>if 0<=i/\i<mA k then x=.opened k\/x=.taken k\/∃c,x=.way c else x=.none
 |_=>x=.none
structure GI (s:Sh) (σ:Ab):Prop where
 pf:∀p,(σ.pg p).fit s p
 sf:∀p i,(σ.sl p i).fit s
 mf:∀c i,(σ.mg c i).fit s
 tf:∀c,(σ.st c).fit s
 mr:∀c i,σ.mg c i≠.none->(0<=c/\c<s.c)/\0<=i/\i<s.m
 tr:∀c,σ.st c≠.unused->0<=c/\c<s.c
 sk:∀p i,ND (σ.pg p) i (σ.sl p i)
 bd:∀p h,σ.pg p=.body h->(∃o,σ.pg h=.held o)\/∃n,σ.pg h=.large n/\p<h+n
 lg:∀p n,σ.pg p=.large n->∀j,1<=j->j<n->σ.pg (p+j)=.body p
 mv:∀c j p i k,σ.mg c j=.entry p i k->(∃b,σ.pg p=.super k b)/\σ.sl p i=.way c
 mi:∀c j j' p i k k',σ.mg c j=.entry p i k->σ.mg c j'=.entry p i k'->j=j'
structure Same (x:Int) (σ σ':Ab):Prop where
 h:∀p,σ'.pg p=.held x↔σ.pg p=.held x
 hs:∀p i,σ.pg p=.held x->σ'.sl p i=σ.sl p i
 b:∀p h,σ.pg h=.held x->(σ'.pg p=.body h↔σ.pg p=.body h)
 w:∀p i k,((∃b,σ'.pg p=.super k b)/\σ'.sl p i=.way x)↔((∃b,σ.pg p=.super k b)/\σ.sl p i=.way x)
 m:∀i,σ'.mg x i=σ.mg x i
theorem Same.refl(x:Int)(σ:Ab):Same x σ σ:=⟨λ_=>.rfl,λ_ _ _=>rfl,λ_ _ _=>.rfl,λ_ _ _=>.rfl,λ_=>rfl⟩
theorem Same.trans{x:Int}{a b c:Ab}(h:Same x a b)(k:Same x b c):Same x a c:=
 ⟨λp=>(k.h p).trans (h.h p),λp i f=>(k.hs p i ((h.h p).2 f)).trans (h.hs p i f),λp q l=>(k.b p q ((h.h q).2 l)).trans (h.b p q l),λp i j=>(k.w p i j).trans (h.w p i j),λi=>(k.m i).trans (h.m i)⟩
structure Own where
 h:Int->Prop
 b:Int->Int->Prop
 w:Int->Int->Int->Prop
def Own.no:Own:=⟨λ_=>False,λ_ _=>False,λ_ _ _=>False⟩
def Own.add (o r:Own):Own:=⟨λp=>o.h p\/r.h p,λp h=>o.b p h\/r.b p h,λp i k=>o.w p i k\/r.w p i k⟩
def Own.way (p i k:Int):Own:=⟨λ_=>False,λ_ _=>False,λp' i' k'=>p'=p/\i'=i/\k'=k⟩
def Own.ways (p n k:Int):Own:=⟨λ_=>False,λ_ _=>False,λp' i' k'=>p'=p/\(0<=i'/\i'<n)/\k'=k⟩
def Own.page (p:Int):Own:=⟨λp'=>p'=p,λ_ _=>False,λ_ _ _=>False⟩
def Own.pages (lo hi:Int):Own:=⟨λp'=>lo<=p'/\p'<hi,λ_ _=>False,λ_ _ _=>False⟩
def Own.bodies (h lo hi:Int):Own:=⟨λ_=>False,λp' h'=>h'=h/\lo<=p'/\p'<hi,λ_ _ _=>False⟩
structure xA (σ:Ab) (c:Int) (o:Own):Prop where
 h:∀p,σ.pg p=.held c↔o.h p
 b:∀p h,(σ.pg p=.body h/\σ.pg h=.held c)↔o.b p h
 w:∀p i k,((∃b,σ.pg p=.super k b)/\σ.sl p i=.way c)↔(o.w p i k\/∃j,σ.mg c j=.entry p i k)
 d:∀p i k j,o.w p i k->σ.mg c j≠.entry p i k
theorem xA.eq{σ:Ab}{c:Int}{o f:Own}(h:xA σ c o)(h1:∀p,f.h p↔o.h p)(h2:∀p q,f.b p q↔o.b p q)(h3:∀p i k,f.w p i k↔o.w p i k):xA σ c f:=
 ⟨λp=>(h.h p).trans (h1 p).symm,λp q=>(h.b p q).trans (h2 p q).symm,λp i k=>(h.w p i k).trans (or_congr (h3 p i k).symm .rfl),λp i k j l=>h.d p i k j ((h3 p i k).1 l)⟩
theorem xA.same{σ σ':Ab}{c:Int}{o:Own}(h:xA σ c o)(hs:Same c σ σ'):xA σ' c o:=by
 refine⟨λp=>(hs.h p).trans (h.h p),λp q=>?_,λp i k=>(hs.w p i k).trans ((h.w p i k).trans (or_congr .rfl ⟨λ⟨j,e⟩=>⟨j,(hs.m j).trans e⟩,λ⟨j,e⟩=>⟨j,(hs.m j).symm.trans e⟩⟩)),λp i k j n e=>h.d p i k j n ((hs.m j).symm.trans e)⟩;rw[<-h.b p q,hs.h q];constructor
 .rintro⟨l,f⟩;exact⟨(hs.b p q f).1 l,f⟩
 rintro⟨l,f⟩;exact⟨(hs.b p q f).2 l,f⟩
end Go.Proofs.YtkilokkopbajkaaGreat
