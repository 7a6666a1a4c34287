
import Derived.Test.YtkilokkopbajkaaGreatBw36

set_option linter.all false
set_option maxHeartbeats 4000000
set_option maxRecDepth 100000
namespace Go.Proofs.YtkilokkopbajkaaGreat

open RowKit

attribute [local go_sem ↓] wp_at_zero wp_at_succ

theorem RdE.nth{w:World}{v:Value}{es:List Ev}(h:RdE w v es):∃ao cap,v=.slice ao es.length cap/\es.length<=cap/\(cap:Int)<=9223372036854775807/\(es≠ []->∃b f,ao=some ⟨b,f,.none⟩/\b<w.heap.size/\∀i (hi:i<es.length) j,j<8->w.cell? ⟨b,f+i*8+j,.none⟩=(es[i]).cells.toList[j]?):=by
 obtain⟨ao,cap,e,h1,h2,h3,h4⟩:=h;refine⟨ao,cap,e,h1,h2,λr=>?_⟩;obtain⟨b,f,m,o,p⟩:=h4 (λe=>r (List.eq_nil_of_length_eq_zero e));refine⟨b,f,m,o,λi hi j q=>?_⟩;rw[Nat.add_assoc,p _ (by omega)];exact gN (λe:Ev=>e.cells.toList) 8 mT es i j hi q
section

variable {s:Sh}{σ:Ab}{d:Wd}{n:Nat}{c:Int}{k k':Kl}

def PH:Ab:=⟨λ_=>.empty,λ_ _=>.none,λ_ _=>.none,λ_=>.unused⟩
theorem dN(N:Nat)(a:Int):(DF N).get a=0:=by
 unfold Mem.get DF;dsimp only;rw[List.getD_eq_getElem?_getD,List.getElem?_replicate];split<;>rfl
theorem PN(h:mayB s.p s.c s.m=true):WI s PH (sB s):=by
 have h0:=EM h;have o:∀c,xA PH c .no:=λc=>by
  refine⟨λp=>⟨λe=>?_,λe=>e.elim⟩,λp g=>⟨λe=>?_,λe=>e.elim⟩,λp i k=>⟨λe=>?_,λe=>?_⟩,λp i k j e=>e.elim⟩
  .cases e
  .cases e.1
  .obtain⟨⟨b,e⟩,_⟩:=e;cases e
  rcases e with e|⟨j,e⟩
  .exact e.elim
  cases e
 refine⟨⟨h0.fi,λp q=>?_,λp i q hi=>?_,λc i hc hi=>?_,λc hc=>?_⟩,?_,λc k f=>?_,λc e=>(by cases e),λc _=>⟨o c,λ_=>rfl⟩,λx a e=>(by cases e)⟩
 .exact dN _ _
 .exact dN _ _
 .exact dN _ _
 .exact(dN _ _).trans (show (0:Int)=ZA 0 0 by decide)
 .exact⟨λ_=>trivial,λ_ _=>trivial,λ_ _=>trivial,λ_=>trivial,λc i e=>absurd rfl e,λc e=>absurd rfl e,λp i=>rfl,λp h e=>(by cases e),λp n e=>(by cases e),λc j p i k e=>(by cases e),λc j j' p i k k' e=>(by cases e)⟩
 unfold Wd.kl sB at f;dsimp only at f;rw[List.getD_eq_getElem?_getD,List.getElem?_replicate]at f;split at f
 .split at f<;>simp at f
 cases f
end

section

variable {s:Sh}{σ:Ab}{d:Wd}{J:Jd}{n:Nat}{c:Int}

theorem yqw(h:mayB s.p s.c s.m=true):JI s PH (sB s) (newJ s.p s.c s.m):=by
 have hb:=JA.1 h;have q:newJ s.p s.c s.m=⟨s.p*64,[],List.replicate s.c.toNat Pt.zero,0,-1,0⟩:=by unfold newJ;rw[jP h]
 rw[q];have i:∀c k,(sB s).kl c≠some k:=λc k f=>by
  unfold Wd.kl sB at f;dsimp only at f;rw[List.getD_eq_getElem?_getD,List.getElem?_replicate]at f;split at f
  .split at f<;>simp at f
  cases f
 have o:∀c,(⟨s.p*64,[],List.replicate s.c.toNat Pt.zero,0,-1,0⟩:Jd).pt c=Pt.zero:=λc=>by unfold Jd.pt;dsimp only;rw[List.getD_eq_getElem?_getD,List.getElem?_replicate];split<;>rfl
 refine⟨rfl,rfl,⟨by show (0:Int)<=s.p*64;omega,λa n=>⟨λe=>(by cases e),λ⟨b,e,_⟩=>by cases b<;>cases e⟩⟩,by simp,λc _ _=>?_,λc _ _ e=>?_⟩
 .rw[o];exact⟨⟨λe=>(by cases e),λe=>absurd rfl e⟩,⟨λe=>(by cases e),λ⟨k,e⟩=>absurd e (i c k)⟩,⟨λe=>(by cases e),λ⟨k,_,e,_⟩=>absurd e (i c k)⟩,λk j e _=>absurd e (i c k)⟩
 rw[o]at e;cases e
end

theorem RS{s:Sh}(h:mayB s.p s.c s.m=true):AI s (sB s) 0:=⟨EM h,PH,PN h,yqw h⟩
def TA (l:List Bk):List Value:=l.flatMap Bk.cells
theorem JK(l k:List Bk):TA (l++k)=TA l++TA k:=by simp[TA]
theorem HK(l:List Bk)(i j:Nat)(hi:i<l.length)(o:j<2):(TA l)[i*2+j]?=(l[i].cells)[j]?:=by
 induction l generalizing i with
 |nil=>simp at hi
 |cons b l m=>
  show (b.cells++TA l)[i*2+j]?=_
  have f:b.cells.length=2:=rfl
  cases i with
  |zero=>rw[List.getElem?_append_left (by omega)];simp
  |succ i=>
   rw[List.getElem?_append_right (by omega),f,show (i+1)*2+j-2=i*2+j from by omega]
   simpa using m i (by simpa using hi)
def RdK (w:World) (v:Value) (l:List Bk):Prop:=RdS w 2 v l.length (TA l)
theorem RdK.nth{w:World}{v:Value}{l:List Bk}(r:RdK w v l):∃ao cap,v=.slice ao l.length cap/\l.length<=cap/\(cap:Int)<=9223372036854775807/\(l≠ []->∃b f,ao=some ⟨b,f,.none⟩/\b<w.heap.size/\
  ∀i (hi:i<l.length),w.cell? ⟨b,f+i*2,.none⟩=some (.int .i64 l[i].a)/\w.cell? ⟨b,f+i*2+1,.none⟩=some (.int .i64 l[i].n)):=by
 obtain⟨ao,cap,e,h1,h2,_,h4⟩:=r;refine⟨ao,cap,e,h1,h2,λo=>?_⟩;obtain⟨b,f,m,j,hc⟩:=h4 (λh=>o (List.eq_nil_of_length_eq_zero h));refine⟨b,f,m,j,λi hi=>⟨?_,?_⟩⟩
 .have:=hc (i*2) (by omega);rw[this,show i*2=i*2+0 from rfl,HK l i 0 hi (by omega)];rfl
 have:=hc (i*2+1) (by omega);rw[Nat.add_assoc,this,HK l i 1 hi (by omega)];rfl
structure Mdl (T E:TypeId) (B:Nat) (w:World) (s:Nat) (sl:Value) (W:Int) (l:List Bk):Prop where
 lies:B<=s
 head:w.heap[s]?=some (.cells #[sl,W] T (0,0))
 owns:w.ownsRow B E 2 sl l.length (TA l)
 apart:sl.ownBlock≠some s
 ok:okK W 0 l
 small:W<=4096
section

variable {T E:TypeId}{B:Nat}{w w':World}{s:Nat}{sl:Value}{W:Int}{l:List Bk}

theorem Mdl.lt(h:Mdl T E B w s sl W l):s<w.heap.size:=(jE h.head)
theorem Mdl.AF(h:Mdl T E B w s sl W l):∀k,sl.ownBlock=some k->B<=k/\k<w.heap.size:=h.owns.lt
theorem Mdl.cell0(h:Mdl T E B w s sl W l):w.cell? ⟨s,0,.none⟩=some sl:=by simpa using cell_of_row w s 0 _ T (0,0) h.head
theorem Mdl.cell1(h:Mdl T E B w s sl W l):w.cell? ⟨s,1,.none⟩=some (.int .i64 W):=by simpa using cell_of_row w s 1 _ T (0,0) h.head
theorem Mdl.free(h:Mdl T E B w s sl W l)(i:Nat):w.frozen? ⟨s,i,.none⟩=false:=KA h.head i
theorem Mdl.rd(h:Mdl T E B w s sl W l):RdK w sl l:=RdS.lD h.owns
theorem Mdl.blocks(h:Mdl T E B w s sl W l)(hb:∀k,foot s sl k->w'.heap[k]?=w.heap[k]?):Mdl T E B w' s sl W l:=
 ⟨h.lies,by rw[hb s (.inl rfl)];exact h.head,oC h.owns (λk b=>hb k (.inr b)),h.apart,h.ok,h.small⟩
theorem Mdl.below(h:Mdl T E B w s sl W l)(hb:Below w.heap.size w w'):Mdl T E B w' s sl W l:=
 h.blocks λk b=>hb.block k (by rcases b with rfl|b;exact h.lt;exact(h.AF k b).2)
theorem Mdl.only{F:Nat->Prop}(h:Mdl T E B w s sl W l)(i:Only F w w')(f:∀k,foot s sl k->¬F k):Mdl T E B w' s sl W l:=
 h.blocks λk b=>i.block k (by rcases b with rfl|b;exact h.lt;exact(h.AF k b).2) (f k b)
theorem Mdl.len(h:Mdl T E B w s sl W l):l.length<=4096:=by have:=h.ok.len;have:=h.small;omega
end

section

attribute [local go_sem ↓] fI eI

theorem Hp.BR(h:Hp)(a:Int)(i:Nat):(h.slB a i).length<=i:=by
 induction i with
 |zero=>exact Nat.le_refl _;|succ i b=>unfold Hp.slB;rw[List.length_append];split<;>simp<;>omega
theorem Hp.yi8(h:Hp)(a:Int):(h.pgB a).length<=16:=by
 unfold Hp.pgB;have hb:=CC (h.pa a);split
 .simp
 split
 .have:=h.BR a (mA (h.pa a)).toNat;omega
 simp
theorem Hp.eO(h:Hp)(k:Nat):(h.blT k).length<=16*k:=by
 induction k with
 |zero=>exact Nat.le_refl _;|succ k b=>unfold Hp.blT;rw[List.length_append];have:=h.yi8 k;omega
end

section

variable {W0 W W':World}{g:Nat}{s:Sh}{Kp Kq:Nat->Obj->Prop}{d d':Wd}{n:Nat}

theorem iS(h:IA W0 g s Kp d W)(b:d.tr.length<=100000000):
  Calls Tryz.prog 26 #[some g] W λe w'=>∃v',e=.returned v'/\Below W.heap.size W w'/\RdE w' v' d.tr:=by
 obtain⟨⟨F,x,h1,h2⟩,h3⟩:=h;exact(rM h1 b).mono λe w' ⟨v,k1,i,j⟩=>⟨v,k1,i,RdS.lD j⟩
end

def takeB (W:Int) (l:List Bk) (at' n:Int):List Bk:=if OB W l at' n then putB l at' n else l
theorem yis{W at' n:Int}{l:List Bk}(h:okK W 0 l):okK W 0 (takeB W l at' n):=by
 unfold takeB;by_cases hc:OB W l at' n=true
 .rw[jP hc];simp only[OB,IG,jC,decide_eq_true_eq,Bool.not_eq_true',List.any_eq_false,meets]at hc;exact FK h hc.1.2.1 hc.1.1 (by omega) (λb hb=>hc.2 b hb)
 rw[jN hc];exact h
theorem yh3(l:List Bk)(at' n:Int):(putB l at' n).length=l.length+1:=by
 have:=OQ at' l;unfold putB;rw[List.length_append,List.length_take,List.length_cons,List.length_drop];omega
def atB (l:List Bk) (at':Int):Option Bk:=if WA at' l then l[posB at' l]? else none
theorem dO{W n a:Int}{l:List Bk}(h:OB W l a n=true):takeB W l a n=putB l a n:=by unfold takeB;rw[jP h]
theorem yiu{W n a:Int}{l:List Bk}(h:OB W l a n=false):takeB W l a n=l:=by unfold takeB;rw[jN (by simp[h])]
theorem yh0(l:List Bk):(TA l).length=l.length*2:=by
 induction l with
 |nil=>rfl
 |cons b l f=>show (b.cells++TA l).length=_;rw[List.length_append,f,List.length_cons];show 2+_=_;omega
theorem yib(l:List Bk)(k:Nat):(TA l).take (k*2)=TA (l.take k):=by
 induction k generalizing l with
 |zero=>simp[TA]
 |succ k f=>
  cases l with
  |nil=>simp[TA]
  |cons b l=>
   show (b.cells++TA l).take _=b.cells++TA (l.take k)
   rw[<-f,List.take_append,show b.cells.length=2 from rfl,show (k+1)*2-2=k*2 from by omega,List.take_of_length_le (by show 2<=_;omega)]
theorem yia(l:List Bk)(k:Nat):(TA l).drop (k*2)=TA (l.drop k):=by
 induction k generalizing l with
 |zero=>simp
 |succ k f=>
  cases l with
  |nil=>simp[TA]
  |cons b l=>
   show (b.cells++TA l).drop _=TA (l.drop k)
   rw[<-f,List.drop_append,show b.cells.length=2 from rfl,show (k+1)*2-2=k*2 from by omega,List.drop_of_length_le (by show 2<=_;omega)]
   rfl
theorem IK(l:List Bk):∀u∈TA l,u.oneCell'=true:=by
 intro u hu;obtain⟨b,_,hb⟩:=List.mem_flatMap.1 hu;simp only[Bk.cells,List.mem_cons,List.not_mem_nil,or_false]at hb;rcases hb with rfl|rfl<;>rfl
def blkV (o:Option Bk):Value:=match o with|some b=>.tuple #[.agg #[b.a,b.n],.bool true]|none=>.tuple #[.agg #[.int .i64 0,.int .i64 0],.bool false]
section

attribute [local go_sem high] YU cV NU

def capW (n:Int):Int:=if n<0\/4096<n then 0 else n
theorem yi7(n:Int):0<=capW n/\capW n<=4096:=by unfold capW;split<;>omega
theorem okK.take{W lo:Int}{l:List Bk}(h:okK W lo l)(k:Nat):okK W lo (l.take k):=by
 induction l generalizing lo k with
 |nil=>simpa using h
 |cons b l f=>
  cases k with
  |zero=>exact h.le
  |succ k=>exact⟨h.1,h.2.1,f h.2.2 k⟩
theorem FR:(Tryz.prog.info? 64).map (λi=>(i.zero,i.size,i.bytes))=some (some (.agg #[.int .i64 0,.int .i64 0]),2,16):=by kernel_rfl
theorem Bk.one(b:Bk):∀u∈b.cells,u.oneCell'=true:=by
 intro u hu;simp only[Bk.cells,List.mem_cons,List.not_mem_nil,or_false]at hu;rcases hu with rfl|rfl<;>rfl
abbrev RM:=Mdl 73 64
theorem IR(n:Int)(w:World):Calls Tryz.prog 22 #[n] w λe w'=>e=.returned (.pointer (some ⟨w.heap.size,0,.none⟩))/\Below w.heap.size w w'/\RM w.heap.size w' w.heap.size (.slice none 0 0) (capW n) []:=by
 have key:∀W:Int,W=capW n->RM w.heap.size (w.alloc (.cells #[.slice none 0 0,W] 73)) w.heap.size (.slice none 0 0) (capW n) []:=λW e=>by have:=yi7 n;exact⟨Nat.le_refl _,by rw[<-e];exact jA w _,⟨rfl,.inl ⟨rfl,rfl⟩⟩,by simp[Value.ownBlock],by show (0:Int)<=capW n;omega,by omega⟩
 by_cases h1:n<0
 .have k:=key 0 (by unfold capW;rw[jP (.inl h1)]);go_in;go_wp2;go_ret;exact⟨rfl,br.alloc lr _,k⟩
 by_cases h2:4096<n
 .have k:=key 0 (by unfold capW;rw[jP (.inr h2)]);have hd:decide (4096<n)=true:=jT h2;go_in;go_wp2;go_ret;exact⟨rfl,br.alloc lr _,k⟩
 have k:=key n (by unfold capW;rw[jN (by omega)]);have hd:decide (4096<n)=false:=jF h2;go_in;go_wp2;go_ret;exact⟨rfl,br.alloc lr _,k⟩
theorem OK(E:TypeId)(sz:Nat)(B:Nat)(w:World):w.ownsRow B E sz (.slice none 0 0) 0 []:=⟨by simp,.inl ⟨rfl,rfl⟩⟩
theorem CR{w:World}{ao:Option Addr}{cap n:Nat}{l:List Bk}(r:RdK w (.slice ao n cap) l)(b:n=l.length)(i:Nat)(hi:i<=n):RdS w 2 (cutV ao 0 i cap 2) i (TA (l.take i)):=by
 subst b;have:=RdS.cut r (l:=0) (h:=i) (Nat.zero_le _) hi;rwa [Nat.zero_mul,List.drop_zero,Nat.sub_zero,yib]at this
theorem DR{w:World}{ao:Option Addr}{cap n:Nat}{l:List Bk}(r:RdK w (.slice ao n cap) l)(b:n=l.length)(i:Nat)(hi:i<=n):RdS w 2 (cutV ao i n cap 2) (n-i) (TA (l.drop i)):=by
 subst b;have:=RdS.cut r (l:=i) (h:=l.length) hi lr;rwa [yia,List.take_of_length_le (by rw[yh0,List.length_drop];exact Nat.le_refl _)]at this
theorem Mdl.reset{T E:TypeId}{B s:Nat}{w w':World}{sl v:Value}{W:Int}{l l':List Bk}{N:Nat}(h:Mdl T E B w s sl W l)(hb:Below w.heap.size w w')(m:w'.ownsRow w.heap.size E 2 v N (TA l'))(o:l'.length=N)(i:okK W 0 l'):
  Mdl T E B (w'.setCell ⟨s,0,.none⟩ v) s v W l'/\Only (foot s sl) w (w'.setCell ⟨s,0,.none⟩ v)/\∀k,foot s v k->foot s sl k\/w.heap.size<=k:=by
 subst o;have f:=h.lt;have p:w'.heap[s]?=some (.cells #[sl,W] T (0,0)):=(hb.block s f).trans h.head;have j:∀k,v.ownBlock=some k->w.heap.size<=k:=λk b=>(m.lt k b).1;refine⟨⟨h.lies,by rw[heap_setCell_same w' s 0 _ _ _ p];rfl,?_,λe=>by have:=j s e;omega,i,h.small⟩,(Only.of_below hb).setCell (.inl (.inl rfl)) _,λk b=>?_⟩
 .refine World.ownsRow.mono (base:=w.heap.size) (oC m λk b=>heap_setCell_other w' ⟨s,0,.none⟩ k _ (λe=>?_)) (by have:=h.lies;omega);have:=j k b;simp at e;omega
 rcases b with rfl|b
 .exact .inl (.inl rfl)
 exact .inr (j k b)
theorem yie{w w':World}(h:w.grownBy w' (Value.slice none 0 0).ownBlock):Below w.heap.size w w':=⟨h.os,h.tape,h.output,h.size,λk b=>h.block k b (λe=>nomatch e)⟩
theorem yig{l:List Bk}{at' n:Int}{k:Nat}(b:posB at' l=k):TA (putB l at' n)=(TA (l.take k)++Bk.cells ⟨at',n⟩)++TA (l.drop k):=by
 unfold putB;rw[b,JK];show _++TA ([⟨at',n⟩]++l.drop k)=_;rw[JK,List.append_assoc];rfl
theorem yja{l:List Bk}{f:Bk->Bool}(i:Nat)(hi:i<l.length)(h:f l[i]=true):l.any f=true:=List.any_eq_true.2 ⟨_,List.getElem_mem hi,h⟩
theorem yi1{l:List Bk}{f:Bk->Bool}(h:∀i (hi:i<l.length),f l[i]=false):l.any f=false:=by
 rw[List.any_eq_false];intro b hb;obtain⟨i,hi,rfl⟩:=List.getElem_of_mem hb;rw[h i hi];simp
theorem ER{B s:Nat}{w:World}{sl:Value}{W:Int}{l:List Bk}(h:RM B w s sl W l)(at' n:Int)(cv: -9223372036854775808<=at')(cx:at'<=9223372036854775807)(e8: -9223372036854775808<=n)(e9:n<=9223372036854775807):
  Calls Tryz.prog 28 #[some s,at',n] w λe w'=>e=.returned (.bool (OB W l at' n))/\∃ca,RM B w' s ca W (takeB W l at' n)/\Only (foot s sl) w w'/\∀k,foot s ca k->foot s sl k\/w.heap.size<=k:=by
 have c1:=h.cell1;have cr:0<=W:=h.ok.le;have cu:=h.small;by_cases hf:IG W at' n=true;case neg=>
  have c7:OB W l at' n=false:=by unfold OB;rw[Bool.eq_false_iff.2 hf];rfl
  have cg:takeB W l at' n=l:=by unfold takeB;rw[jN (by rw[c7];simp)]
  rw[c7,cg];have bi:n<1\/(1<=n/\(at'<0\/(0<=at'/\(W<at'\/(at'<=W/\W-at'<n))))):=by simp only[IG,decide_eq_true_eq]at hf;omega
  clear hf;rcases bi with e1|⟨e1,e2|⟨e2,e3|⟨e3,e4⟩⟩⟩;all_goals go_in;go_wp2;go_ret;exact⟨rfl,_,h,Only.refl _ _,λk hk=>.inl hk⟩
 case pos=>
  have b8:=hf;simp only[IG,decide_eq_true_eq]at b8;obtain⟨f1,f2,f3,f4⟩:=b8;have y:OB W l at' n= !l.any (λb=>meets b at' n):=by unfold OB;rw[hf];rfl
  have c0:=h.cell0;have c5:=h.lt;have b9:=h.ok.mem;have bq:=h.ok.lt;have c8:=yis (at':=at') (n:=n) h.ok;have L:OB W l at' n=true->takeB W l at' n=putB l at' n:=dO;have q:OB W l at' n=false->takeB W l at' n=l:=yiu;generalize takeB W l at' n=lt at*;generalize OB W l at' n=ok at*;obtain⟨ao,cap,rfl,bw,cy,b2⟩:=h.rd.nth;have bz:=h.len;obtain⟨m,hm,c6⟩:=hidv l.length;have bp:=h.rd;rw[<-c6]at c0 bw bz bp h|-;clear c6 hf;obtain⟨i0,bk,bs,bu,bv⟩:=info_parts FR;have cj:IntKind.i64.wrap (at'+n)=at'+n:=by rw[IntKind.wrap_i64];omega
  have cq:IntKind.i64.wrap (W-at')=W-at':=by rw[IntKind.wrap_i64];omega
  replace y:=hd' y;go_in;go_wp2;go_loopw [7,8,9] (λvk vi _ wr=>∃i k:Nat,i<=m/\k<=i/\vi=.int .i64 i/\vk=.int .i64 k/\Hid (∀j (F:j<l.length),j<i->meets l[j] at' n=false)/\Hid (∀j (F:j<l.length),j<k->l[j].a<at')/\Hid (∀j (F:j<l.length),k<=j->j<i->at'<=l[j].a)/\Below w.heap.size w wr) (λ_ vi _ _=>m-(intOf vi).toNat);case atStart=>exact⟨0,0,Nat.zero_le _,Nat.le_refl _,rfl,rfl,hd' (λj F h=>absurd h (Nat.not_lt_zero _)),hd' (λj F h=>absurd h (Nat.not_lt_zero _)),hd' (λj F _ h=>absurd h (Nat.not_lt_zero _)),Below.refl _ _⟩
  case round=>
   obtain⟨i,k,hi,bx,rfl,rfl,bm,X,V,p⟩:=hrel;have d0:=kA p _ _ _ c0;have d1:=kA p _ _ _ c1;have D:=p.size;have d2:=λo=>kA (p.alloc D o) _ _ _ c0;have d3:=λo=>kA ((p.drew).alloc D o) _ _ _ c0;by_cases c4:i<m
   .have S:i<l.length:=hm.out▸c4;obtain⟨b,ea,rfl,hb,hc⟩:=b2 (λe=>by rw[e]at S;simp at S);obtain⟨x0,x1⟩:=hc i S;replace x0:=kA p _ _ _ x0;replace x1:=kA p _ _ _ x1;obtain⟨g1,g2,g3⟩:=b9 _ (List.getElem_mem S);have cz:(i:Int)<(m:Int):=by omega
    have cp:(0:Int)<=(i:Int):=by omega
    have cb:IntKind.i64.wrap (l[i].a+l[i].n)=l[i].a+l[i].n:=by rw[IntKind.wrap_i64];omega
    have b6:meets l[i] at' n=true->l.any (λb=>meets b at' n)=true:=yja (f:=λb=>meets b at' n) i S;have I:meets l[i] at' n=false->∀j (F:j<l.length),j<i+1->meets l[j] at' n=false:=λhx j F h=>by
     rcases Nat.lt_or_ge j i with h1|h1
     .exact bm j F h1
     have:j=i:=by omega
     subst this;exact hx
    have C:l[i].a<at'->∀j (F:j<l.length),j<i+1->l[j].a<at':=λhx j F h=>by
     rcases Nat.lt_or_ge j i with h1|h1
     .have:=bq j i h1 S;have:=(b9 _ (List.getElem_mem F)).2.1;omega
     have:j=i:=by omega
     subst this;exact hx
    have z:at'<=l[i].a->∀j (F:j<l.length),k<=j->j<i+1->at'<=l[j].a:=λhx j F h h'=>by
     rcases Nat.lt_or_ge j i with h1|h1
     .exact V j F h h1
     have:j=i:=by omega
     subst this;exact hx
    have U:meets l[i] at' n=decide (l[i].a<at'+n/\at'<l[i].a+l[i].n):=rfl;clear hc b2;generalize meets l[i] at' n=mt at*;generalize l[i].a=ba at*;generalize l[i].n=bn at*;by_cases h1:ba<at'+n
    .by_cases h2:at'<ba+bn
     .have e1:mt=true:=by rw[U];exact jT ⟨h1,h2⟩
      have G:=b6 e1;have bb:ok=false:=by rw[y,G];rfl
      have Z:=q bb;subst bb;subst Z;clear b6 I C z U L q e1 G y;go_wp2;go_ret;exact⟨rfl,_,h.below (p.alloc D _),Only.of_below (p.alloc D _),λk hk=>.inl hk⟩
     have e1:mt=false:=by rw[U];exact jF (λh=>h2 h.2)
     have b0:=hd' (I e1);by_cases h3:ba<at'
     .have bh:=hd' (C h3);clear b6 I C z U L q;go_wp2;exact⟨⟨i+1,i+1,by omega,by omega,by go_num,by go_num,b0,bh,hd' (λj F h h'=>by omega),p.alloc D _⟩,by simp[intOf];omega⟩
     omega
    have e1:mt=false:=by rw[U];exact jF (λh=>h1 h.1)
    have b0:=hd' (I e1);have h3:¬ba<at':=by omega
    have bg:=hd' (z (by omega));clear b6 I C z U L q;go_wp2;exact⟨⟨i+1,k,by omega,by omega,by go_num,rfl,b0,X,bg,p.alloc D _⟩,by simp[intOf];omega⟩
   have cc:i=m:=by omega
   subst cc;have e0:¬((i:Int)<(i:Int)):=by omega
   have bf:posB at' l=k:=oN at' l k (by have:=hm.out;omega) (λj F cd=>X j cd F) (λhk=>V k hk lr (by have:=hm.out;omega));have G:=yi1 (l:=l) (f:=λb=>meets b at' n) (λj F=>bm j F (by have:=hm.out;omega));have bc:ok=true:=by rw[y,G];rfl
   have Z:=L bc;subst bc;have b3:=yig (n:=n) bf;rw[<-Z]at b3;have bj:lt.length=k+1+(i-k):=by rw[Z,yh3,<- hm];omega
   replace b3:=hd' b3;replace bj:=hd' bj;have c9:=(CR bp hm k bx).below p;have cf:=DR bp hm k bx;have e5:(0:Int)<=(k:Int):=by omega
   have e6:(k:Int)<=(cap:Int):=by omega
   have e7:(k:Int)<=(i:Int):=by omega
   clear bm X V c4 Z G bf L q y b2;go_wp2
   go_region_law
    (first|(refine sG (by rfl) (.const (.slice none 0 0)) (.tmp 77) 71 (by rfl) w.heap.size 64 i0 _ 2 16 Tryz.underlying71 bk bs bu bv rfl (by omega) _ 0 [] (by rfl) (OK _ _ _ _) _ k (TA (l.take k)) (by rfl) (by first|exact c9.drew|exact c9.drew.alloc _) (IK _) (by simp only[maxLen];omega) (by omega) (by first|exact D|(simp;omega)) ?_;intro v1 w1 r R ck;have H:=sE (by first|exact p.drew|exact(p.drew).alloc (by simpa using D) _) (OK 64 2 w.heap.size _) (by first|exact D|(simp;omega)) R;have O:=H.size;simp only[Nat.zero_add,List.nil_append]at r;have q1:=kA H _ _ _ c0;have q5:=(λo=>kA (H.alloc O o) _ _ _ c0);have ch:=yie R)|(refine sG (by rfl) (.tmp 78) (.tmp 82) 71 (by rfl) w.heap.size 64 i0 _ 2 16 Tryz.underlying71 bk bs bu bv rfl (by omega) _ k (TA (l.take k)) (by rfl) (by first|exact r|exact r.alloc _) _ 1 (Bk.cells ⟨at',n⟩) (by rfl) (by first|exact RdS.new (cs:=(Bk.cells ⟨at',n⟩).toArray) (t:=64) (sz:=2) (n:=1) (jA w1 _) rfl (by omega)|exact(RdS.new (cs:=(Bk.cells ⟨at',n⟩).toArray) (t:=64) (sz:=2) (n:=1) (jA wr.drew _) rfl (by omega)).below ch) (Bk.one _) (by simp only[maxLen];omega) (by omega) (by first|exact O|(simp;omega)) ?_;intro v2 w2 b1 b4 cl;have N:=sE (by first|exact H|exact H.alloc O _) (by first|exact r|exact r.alloc _) (by first|exact O|(simp;omega)) b4;have b7:=N.size;have q2:=kA N _ _ _ c0)|(refine sG (by rfl) (.tmp 83) (.tmp 89) 71 (by rfl) w.heap.size 64 i0 _ 2 16 Tryz.underlying71 bk bs bu bv rfl (by omega) _ (k+1) (TA (l.take k)++Bk.cells ⟨at',n⟩) (by rfl) b1 _ (i-k) (TA (l.drop k)) (by rfl) (cf.below N) (IK _) (by simp only[maxLen];omega) (by omega) b7 ?_;intro v3 w3 M b5 cm;have Y:=sE N b1 b7 b5;obtain⟨so,sc,rfl,_,_,_⟩:=RdS.lD M;have q3:=kA Y _ _ _ c0;have q4:w3.frozen? ⟨s,0,.none⟩=false:=KA ((Y.block s c5).trans h.head) 0))
   all_goals rw[<-b3]at M;obtain⟨m1,m2,m3⟩:=Mdl.reset h Y M bj c8;go_wp2;go_ret;exact⟨rfl,_,m1,m2,m3⟩
theorem yqf{W lo:Int}{l:List Bk}(h:okK W lo l)(i:Nat)(hi:i<l.length):atB l l[i].a=some l[i]:=by
 have f:=oN l[i].a l i (by omega) (λk m b=>by have:=h.lt k i m hi;have:=(h.mem _ (List.getElem_mem b)).2.1;omega) (λ_=>Int.le_refl _);have j:WA l[i].a l=true:=(uK _ _).2 ⟨by omega,by simp only[f]⟩;unfold atB;rw[jP j,f,List.getElem?_eq_getElem hi]
theorem ypd{W lo a:Int}{l:List Bk}(h:okK W lo l)(j:∀i (hi:i<l.length),l[i].a≠a):atB l a=none:=by
 unfold atB;rw[jN];intro f;obtain⟨b,hb,e⟩:=(vI h).1 f;obtain⟨i,hi,rfl⟩:=List.getElem_of_mem hb;exact j i hi e
theorem ES{B s:Nat}{w:World}{sl:Value}{W:Int}{l:List Bk}(h:RM B w s sl W l)(at':Int):
  Calls Tryz.prog 27 #[some s,at'] w λe w'=>e=.returned (blkV (atB l at'))/\Below w.heap.size w w':=by
 have c0:=h.cell0;have R:=h.lt;obtain⟨ao,cap,rfl,C,V,r⟩:=h.rd.nth;have hs:=h.small;have D:=h.len;obtain⟨n,S,G⟩:=hidv l.length;rw[<-G]at c0 C D;clear G;go_in;go_wp2;go_loopw [6] (λN wr=>∃i:Nat,i<=n/\N=.int .i64 i/\(∀j (z:j<l.length),j<i->l[j].a≠at')/\wr=w.alloc (.cells #[.int .i64 0,.int .i64 0] 64)) (λN _=>n-(intOf N).toNat);case atStart=>exact⟨0,Nat.zero_le _,rfl,(λj z h=>absurd h (Nat.not_lt_zero _)),by first|rfl|trivial⟩
 case round=>
  obtain⟨i,hi,rfl,p,rfl⟩:=hrel;have L:Below w.heap.size w (w.alloc (.cells #[.int .i64 0,.int .i64 0] 64)):=br.alloc lr _;by_cases F:i<n
  .have y:i<l.length:=S.out▸F;obtain⟨b,b2,rfl,hb,hc⟩:=r (λe=>by rw[e]at y;simp at y);obtain⟨x0,x1⟩:=hc i y;have o:=yqf h.ok i y;have Z:(i:Int)<(n:Int):=by omega
   have Y:(0:Int)<=(i:Int):=by omega
   by_cases H:l[i].a=at'
   .have m:blkV (atB l at')=.tuple #[.agg #[.int .i64 l[i].a,.int .i64 l[i].n],.bool true]:=by rw[<-H,o];rfl
    replace m:=hd' m;have b1:b≠w.heap.size:=by omega
    have U:s≠w.heap.size:=by omega
    clear o p hc r;generalize l[i].a=I at*;generalize l[i].n=O at*;subst H;go_wp2;exact bodyPost_ret (v:=.tuple #[.agg #[I,O],.bool true]) (by simp[results,Tryz.results27,go_sem]) rfl ⟨by rw[m],br.alloc lr _⟩
   have q:∀j (z:j<l.length),j<i+1->l[j].a≠at':=λj z h=>by
    rcases Nat.lt_or_ge j i with h1|h1
    .exact p j z h1
    have:j=i:=by omega
    subst this;exact H
   replace q:=hd' q;clear o p hc r;generalize l[i].a=I at*;generalize l[i].n=O at*;have X:(I==at')=false:=by rw[beq_eq_false_iff_ne];exact H
   go_wp2;exact⟨⟨i+1,by omega,by go_num,q.out,by first|rfl|trivial⟩,by simp[intOf];omega⟩
  have M:i=n:=by omega
  subst M;have b0:¬((i:Int)<(i:Int)):=by omega
  have m:blkV (atB l at')=.tuple #[.agg #[.int .i64 0,.int .i64 0],.bool false]:=by rw[ypd h.ok (λj z=>p j z (by have:=S.out;omega))];rfl
  replace m:=hd' m;clear F p;go_wp2;exact bodyPost_ret (v:=.tuple #[.agg #[.int .i64 0,.int .i64 0],.bool false]) (by simp[results,Tryz.results27,go_sem]) rfl ⟨by rw[m],L⟩
theorem ym6{W lo:Int}{l:List Bk}(h:okK W lo l)(i:Nat)(hi:i<l.length):WA l[i].a l=true/\posB l[i].a l=i:=by
 have f:=oN l[i].a l i (by omega) (λk j b=>by have:=h.lt k i j hi;have:=(h.mem _ (List.getElem_mem b)).2.1;omega) (λ_=>Int.le_refl _);exact⟨(uK _ _).2 ⟨by omega,by simp only[f]⟩,f⟩
theorem yma{W lo a:Int}{l:List Bk}(h:okK W lo l)(j:∀i (hi:i<l.length),l[i].a≠a):WA a l=false:=by
 rw[Bool.eq_false_iff];intro f;obtain⟨b,hb,e⟩:=(vI h).1 f;obtain⟨i,hi,rfl⟩:=List.getElem_of_mem hb;exact j i hi e
theorem jS{B s:Nat}{w:World}{sl:Value}{W:Int}{l:List Bk}(h:RM B w s sl W l)(at':Int):
  Calls Tryz.prog 29 #[some s,at'] w λe w'=>e=.returned (.bool (WA at' l))/\∃b6,RM B w' s b6 W (nB l at')/\Only (foot s sl) w w'/\∀k,foot s b6 k->foot s sl k\/w.heap.size<=k:=by
 have c0:=h.cell0;have b0:=h.lt;have bq:=h.free;have b2:=zL (at':=at') h.ok;obtain⟨ao,cap,rfl,V,bm,F⟩:=h.rd.nth;have hs:=h.small;have Y:=h.len;obtain⟨n,U,b1⟩:=hidv l.length;have O:=h.rd;rw[<-b1]at c0 V Y O h|-;clear b1;obtain⟨i0,X,b3,b4,b5⟩:=info_parts FR;go_in;go_wp2;go_loopw [5] (λvi wr=>∃i:Nat,i<=n/\vi=.int .i64 i/\(∀j (S:j<l.length),j<i->l[j].a≠at')/\wr=w) (λvi _=>n-(intOf vi).toNat);case atStart=>exact⟨0,Nat.zero_le _,rfl,(λj S h=>absurd h (Nat.not_lt_zero _)),by first|rfl|trivial⟩
 case round=>
  obtain⟨i,hi,rfl,C,bc⟩:=hrel;obtain rfl:=bc.symm;by_cases Z:i<n
  .have I:i<l.length:=U.out▸Z;obtain⟨b,bx,rfl,hb,hc⟩:=F (λe=>by rw[e]at I;simp at I);obtain⟨x0,x1⟩:=hc i I;have bu:(i:Int)<(n:Int):=by omega
   have bi:(0:Int)<=(i:Int):=by omega
   have bj:(i:Int)+1<=(n:Int):=by omega
   have bk:(0:Int)<=(i:Int)+1:=by omega
   by_cases R:l[i].a=at'
   .obtain⟨m,y⟩:=ym6 h.ok i I;rw[R]at m y;have o:nB l at'=l.take i++l.drop (i+1):=by unfold nB OF;rw[jP m,y]
    have N:(nB l at').length=i+(n-(i+1)):=by rw[o,List.length_append,List.length_take,List.length_drop,<- U];omega
    have M:TA (nB l at')=TA (l.take i)++TA (l.drop (i+1)):=by rw[o,JK]
    replace o:=hd' o;replace N:=hd' N;replace M:=hd' M;replace y:=hd' y;have b9:=CR O U i (by omega);have bb:=DR O U (i+1) (by omega);have bf:IntKind.i64.wrap ((i:Int)+1)=(i:Int)+1:=by rw[IntKind.wrap_i64];omega
    have bw:((i:Int)+1).toNat=i+1:=by omega
    have bs:(i:Int)<=(cap:Int):=by omega
    clear C hc F;replace R:=R;generalize l[i].a=ba at*;generalize l[i].n=bn at*;subst R;replace m:=hd' m;go_wp2
    go_region_law
     (first|(refine sG (by rfl) (.const (.slice none 0 0)) (.tmp 31) 71 (by rfl) w.heap.size 64 i0 _ 2 16 Tryz.underlying71 X b3 b4 b5 rfl (by omega) _ 0 [] (by rfl) (OK _ _ _ _) _ i (TA (l.take i)) (by rfl) b9.drew (IK _) (by simp only[maxLen];omega) (by omega) lr ?_;intro v1 w1 p G bg;have r:=sE ((Below.refl w.heap.size w).drew) (OK 64 2 w.heap.size w.drew) lr G;have L:=r.size;simp only[Nat.zero_add,List.nil_append]at p;have q1:=kA r _ _ _ c0)|(refine sG (by rfl) (.tmp 32) (.tmp 39) 71 (by rfl) w.heap.size 64 i0 _ 2 16 Tryz.underlying71 X b3 b4 b5 rfl (by omega) _ i (TA (l.take i)) (by rfl) p _ (n-(i+1)) (TA (l.drop (i+1))) (by rfl) (bb.below r) (IK _) (by simp only[maxLen];omega) (by omega) L ?_;intro v2 w2 q H bh;have z:=sE r p L H;obtain⟨so,sc,rfl,_,_,_⟩:=RdS.lD q;have q2:=kA z _ _ _ c0;have q3:w2.frozen? ⟨s,0,.none⟩=false:=KA ((z.block s b0).trans h.head) 0))
    all_goals rw[<-M]at q;obtain⟨m1,m2,m3⟩:=Mdl.reset h z q N b2;go_wp2;go_ret;exact⟨by rw[m];rfl,_,m1,m2,m3⟩
   have D:∀j (S:j<l.length),j<i+1->l[j].a≠at':=λj S h=>by
    rcases Nat.lt_or_ge j i with h1|h1
    .exact C j S h1
    have:j=i:=by omega
    subst this;exact R
   replace D:=hd' D;clear C hc F;generalize l[i].a=ba at*;generalize l[i].n=bn at*;have bp:(ba==at')=false:=by rw[beq_eq_false_iff_ne];exact R
   go_wp2;exact⟨⟨i+1,by omega,by go_num,D.out,by first|rfl|trivial⟩,by simp[intOf];omega⟩
  have b7:i=n:=by omega
  subst b7;have bv:¬((i:Int)<(i:Int)):=by omega
  have m:WA at' l=false:=yma h.ok (λj S=>C j S (by have:=U.out;omega));have o:nB l at'=l:=by unfold nB;rw[jN (by rw[m];simp)]
  have b8:RM B w s (.slice ao i cap) W (nB l at'):=by rw[o];exact U.out▸h
  replace m:=hd' m;clear Z C o;go_wp2;go_ret;exact⟨by rw[m];rfl,_,b8,Only.refl _ _,λk hk=>.inl hk⟩
end

theorem RR(l:List Bk)(a:Int):∃x y:Int,blkV (atB l a)=.tuple #[.agg #[x,y],.bool (WA a l)]:=by
 unfold atB;rcases jB (WA a l) with hb|hb
 .rw[jP hb,hb];obtain⟨h1,h2⟩:=(uK a l).1 hb;rw[List.getElem?_eq_getElem h1];exact⟨_,_,rfl⟩
 rw[jN (by rw[hb];decide),hb];exact⟨0,0,rfl⟩
end Go.Proofs.YtkilokkopbajkaaGreat
