/- Texts bound together: MdlF MdQ MdlZ MdlY RjM RjT. -/
import Derived.Deep.Onto

import Derived.Deep.CutBlock

import Derived.Test.YtedcnffebdpmmaaGreatBu3

import Derived.Test.YtedcnffebdpmmaaGreatBu4

set_option linter.all false
set_option maxHeartbeats 4000000
set_option maxRecDepth 100000
namespace Go.Proofs.YtedcnffebdpmmaaGreat

section

open Go.RowKit

def Bk.cells (b:Bk):List Value:= [.int .i64 b.a,.int .i64 b.n]
def yhg (l:List Bk):List Value:=l.flatMap Bk.cells
theorem yhj(l k:List Bk):yhg (l++k)=yhg l++yhg k:=by simp[yhg]
theorem yh1(l:List Bk)(i j:Nat)(hi:i<l.length)(n:j<2):(yhg l)[i*2+j]?=(l[i].cells)[j]?:=by
 induction l generalizing i with
 |nil=>simp at hi
 |cons b l m=>
  show (b.cells++yhg l)[i*2+j]?=_
  have f:b.cells.length=2:=rfl
  cases i with
  |zero=>rw[List.getElem?_append_left (by omega)];simp
  |succ i=>
   rw[List.getElem?_append_right (by omega),f,show (i+1)*2+j-2=i*2+j from by omega]
   simpa using m i (by simpa using hi)
def RdK (w:World) (v:Value) (l:List Bk):Prop:=RdS w 2 v l.length (yhg l)
theorem RdK.nth{w:World}{v:Value}{l:List Bk}(r:RdK w v l):∃ ao cap,v= .slice ao l.length cap/\l.length<=cap/\(cap:Int)<=9223372036854775807/\(l≠ []->∃ b f,ao=some ⟨b,f,.none⟩/\b<w.heap.size/\
  ∀ i (hi:i<l.length),w.cell? ⟨b,f+i*2,.none⟩=some (.int .i64 l[i].a)/\w.cell? ⟨b,f+i*2+1,.none⟩=some (.int .i64 l[i].n)):=by
 obtain⟨ao,cap,e,h1,h2,_,h4⟩:=r;refine⟨ao,cap,e,h1,h2,fun o=>?_⟩;obtain⟨b,f,m,j,hc⟩:=h4 (fun h=>o (List.eq_nil_of_length_eq_zero h));refine⟨b,f,m,j,fun i hi=>⟨?_,?_⟩⟩
 ·have:=hc (i*2) (by omega);rw[this,show i*2=i*2+0 from rfl,yh1 l i 0 hi (by omega)];rfl
 have:=hc (i*2+1) (by omega);rw[Nat.add_assoc,this,yh1 l i 1 hi (by omega)];rfl
structure Mdl (T E:TypeId) (B:Nat) (w:World) (s:Nat) (sl:Value) (W:Int) (l:List Bk):Prop where
 lies:B<=s
 head:w.heap[s]?=some (.cells #[sl,W] T (0,0))
 owns:w.ownsRow B E 2 sl l.length (yhg l)
 apart:sl.ownBlock≠some s
 ok:okK W 0 l
 small:W<=4096
section

variable {T E:TypeId} {B:Nat} {w w':World} {s:Nat} {sl:Value} {W:Int} {l:List Bk}

theorem Mdl.lt(h:Mdl T E B w s sl W l):s<w.heap.size:=(Array.getElem?_eq_some_iff.1 h.head).1
theorem Mdl.zem(h:Mdl T E B w s sl W l):∀ k,sl.ownBlock=some k->B<=k/\k<w.heap.size:=h.owns.lt
theorem Mdl.cell0(h:Mdl T E B w s sl W l):w.cell? ⟨s,0,.none⟩=some sl:=by simpa using cell_of_row w s 0 _ T (0,0) h.head
theorem Mdl.cell1(h:Mdl T E B w s sl W l):w.cell? ⟨s,1,.none⟩=some (.int .i64 W):=by simpa using cell_of_row w s 1 _ T (0,0) h.head
theorem Mdl.free(h:Mdl T E B w s sl W l)(i:Nat):w.frozen? ⟨s,i,.none⟩=false:=zax h.head i
theorem Mdl.rd(h:Mdl T E B w s sl W l):RdK w sl l:=RdS.zew h.owns
theorem Mdl.blocks(h:Mdl T E B w s sl W l)(hb:∀ k,foot s sl k->w'.heap[k]?=w.heap[k]?):Mdl T E B w' s sl W l:=
 ⟨h.lies,by rw[hb s (.inl rfl)];exact h.head,zas h.owns (fun k b=>hb k (.inr b)),h.apart,h.ok,h.small⟩
theorem Mdl.below(h:Mdl T E B w s sl W l)(hb:Below w.heap.size w w'):Mdl T E B w' s sl W l:=
 h.blocks fun k b=>hb.block k (by rcases b with rfl|b;exact h.lt;exact(h.zem k b).2)
theorem Mdl.only{F:Nat->Prop}(h:Mdl T E B w s sl W l)(i:Only F w w')(f:∀ k,foot s sl k->¬ F k):Mdl T E B w' s sl W l:=
 h.blocks fun k b=>i.block k (by rcases b with rfl|b;exact h.lt;exact(h.zem k b).2) (f k b)
theorem Mdl.len(h:Mdl T E B w s sl W l):l.length<=4096:=by have:=h.ok.len;have:=h.small;omega
end

end

section

open Go.RowKit

def takeB (W:Int) (l:List Bk) (at' n:Int):List Bk:=if zwf W l at' n then putB l at' n else l
theorem yis{W at' n:Int}{l:List Bk}(h:okK W 0 l):okK W 0 (takeB W l at' n):=by
 unfold takeB;by_cases hc:zwf W l at' n=true
 ·rw[if_pos hc];simp only[zwf,ydk,Bool.and_eq_true,decide_eq_true_eq,Bool.not_eq_true',List.any_eq_false,meets]at hc;exact ya9 h hc.1.2.1 hc.1.1 (by omega) (fun b hb=>hc.2 b hb)
 rw[if_neg hc];exact h
theorem yh3(l:List Bk)(at' n:Int):(putB l at' n).length=l.length+1:=by
 have:=yck at' l;unfold putB;rw[List.length_append,List.length_take,List.length_cons,List.length_drop];omega
def atB (l:List Bk) (at':Int):Option Bk:=if zd6 at' l then l[posB at' l]? else none
theorem yiy{W n a:Int}{l:List Bk}(h:zwf W l a n=true):takeB W l a n=putB l a n:=by unfold takeB;rw[if_pos h]
theorem yiu{W n a:Int}{l:List Bk}(h:zwf W l a n=false):takeB W l a n=l:=by unfold takeB;rw[if_neg (by simp[h])]
theorem yh0(l:List Bk):(yhg l).length=l.length*2:=by
 induction l with
 |nil=>rfl
 |cons b l f=>show (b.cells++yhg l).length=_;rw[List.length_append,f,List.length_cons];show 2+_=_;omega
theorem yib(l:List Bk)(k:Nat):(yhg l).take (k*2)=yhg (l.take k):=by
 induction k generalizing l with
 |zero=>simp[yhg]
 |succ k f=>
  cases l with
  |nil=>simp[yhg]
  |cons b l=>
   show (b.cells++yhg l).take _=b.cells++yhg (l.take k)
   rw[<-f,List.take_append,show b.cells.length=2 from rfl,show (k+1)*2-2=k*2 from by omega,List.take_of_length_le (by show 2<=_;omega)]
theorem yia(l:List Bk)(k:Nat):(yhg l).drop (k*2)=yhg (l.drop k):=by
 induction k generalizing l with
 |zero=>simp
 |succ k f=>
  cases l with
  |nil=>simp[yhg]
  |cons b l=>
   show (b.cells++yhg l).drop _=yhg (l.drop k)
   rw[<-f,List.drop_append,show b.cells.length=2 from rfl,show (k+1)*2-2=k*2 from by omega,List.drop_of_length_le (by show 2<=_;omega)]
   rfl
theorem yh2(l:List Bk):∀ u ∈ yhg l,u.oneCell'=true:=by
 intro u hu;obtain⟨b,_,hb⟩:=List.mem_flatMap.1 hu;simp only[Bk.cells,List.mem_cons,List.not_mem_nil,or_false]at hb;rcases hb with rfl|rfl<;>rfl
def blkV (o:Option Bk):Value:=match o with | some b=> .tuple #[.agg #[b.a,b.n],.bool true] | none=> .tuple #[.agg #[.int .i64 0,.int .i64 0],.bool false]
end

section

open Go.RowKit

attribute [local go_sem ↓] Go.wp_at_zero Go.wp_at_succ

attribute [local go_sem high] zm6 zml zky

def capW (n:Int):Int:=if n < 0\/4096 < n then 0 else n
theorem yi7(n:Int):0<=capW n/\capW n<=4096:=by unfold capW;split<;>omega
theorem okK.take{W lo:Int}{l:List Bk}(h:okK W lo l)(k:Nat):okK W lo (l.take k):=by
 induction l generalizing lo k with
 |nil=>simpa using h
 |cons b l f=>
  cases k with
  |zero=>exact h.le
  |succ k=>exact⟨h.1,h.2.1,f h.2.2 k⟩
theorem yjh:(Tryz.prog.info? 151).map (fun i=>(i.zero,i.size,i.bytes))=some (some (.agg #[.int .i64 0,.int .i64 0]),2,16):=by kernel_rfl
theorem Bk.one(b:Bk):∀ u ∈ b.cells,u.oneCell'=true:=by
 intro u hu;simp only[Bk.cells,List.mem_cons,List.not_mem_nil,or_false]at hu;rcases hu with rfl|rfl<;>rfl
abbrev RM:=Mdl 196 151
theorem yjp(n:Int)(w:World):Calls Tryz.prog 75 #[n] w fun e w'=>e= .returned (.pointer (some ⟨w.heap.size,0,.none⟩))/\Below w.heap.size w w'/\RM w.heap.size w' w.heap.size (.slice none 0 0) (capW n) []:=by
 have key:∀ W:Int,W=capW n->RM w.heap.size (w.alloc (.cells #[.slice none 0 0,W] 196)) w.heap.size (.slice none 0 0) (capW n) []:=fun W e=>by have:=yi7 n;exact⟨Nat.le_refl _,by rw[<-e];exact heap_alloc_new w _,⟨rfl,.inl ⟨rfl,rfl⟩⟩,by simp[Value.ownBlock],by show (0:Int)<=capW n;omega,by omega⟩
 by_cases h1:n<0
 ·have k:=key 0 (by unfold capW;rw[if_pos (.inl h1)]);go_in;go_wp2;go_ret;exact⟨rfl,br.alloc lr _,k⟩
 by_cases h2:4096<n
 ·have k:=key 0 (by unfold capW;rw[if_pos (.inr h2)]);have hd:decide (4096<n)=true:=decide_eq_true h2;go_in;go_wp2;go_ret;exact⟨rfl,br.alloc lr _,k⟩
 have k:=key n (by unfold capW;rw[if_neg (by omega)]);have hd:decide (4096<n)=false:=decide_eq_false h2;go_in;go_wp2;go_ret;exact⟨rfl,br.alloc lr _,k⟩
theorem yi6(E:TypeId)(sz:Nat)(B:Nat)(w:World):w.ownsRow B E sz (.slice none 0 0) 0 []:=⟨by simp,.inl ⟨rfl,rfl⟩⟩
theorem yiq{w:World}{ao:Option Addr}{cap n:Nat}{l:List Bk}(r:RdK w (.slice ao n cap) l)(b:n=l.length)(i:Nat)(hi:i<=n):RdS w 2 (cutV ao 0 i cap 2) i (yhg (l.take i)):=by
 subst b;have:=RdS.cut r (l:=0) (h:=i) (Nat.zero_le _) hi;rwa [Nat.zero_mul,List.drop_zero,Nat.sub_zero,yib]at this
theorem yix{w:World}{ao:Option Addr}{cap n:Nat}{l:List Bk}(r:RdK w (.slice ao n cap) l)(b:n=l.length)(i:Nat)(hi:i<=n):RdS w 2 (cutV ao i n cap 2) (n-i) (yhg (l.drop i)):=by
 subst b;have:=RdS.cut r (l:=i) (h:=l.length) hi lr;rwa [yia,List.take_of_length_le (by rw[yh0,List.length_drop];exact Nat.le_refl _)]at this
theorem Mdl.reset{T E:TypeId}{B s:Nat}{w w':World}{sl v:Value}{W:Int}{l l':List Bk}{N:Nat}(h:Mdl T E B w s sl W l)(hb:Below w.heap.size w w')(m:w'.ownsRow w.heap.size E 2 v N (yhg l'))(n:l'.length=N)(i:okK W 0 l'):
  Mdl T E B (w'.setCell ⟨s,0,.none⟩ v) s v W l'/\Only (foot s sl) w (w'.setCell ⟨s,0,.none⟩ v)/\∀ k,foot s v k->foot s sl k\/w.heap.size<=k:=by
 subst n;have f:=h.lt;have o:w'.heap[s]?=some (.cells #[sl,W] T (0,0)):=(hb.block s f).trans h.head;have j:∀ k,v.ownBlock=some k->w.heap.size<=k:=fun k b=>(m.lt k b).1;refine⟨⟨h.lies,by rw[heap_setCell_same w' s 0 _ _ _ o];rfl,?_,fun e=>by have:=j s e;omega,i,h.small⟩,(Only.of_below hb).setCell (.inl (.inl rfl)) _,fun k b=>?_⟩
 ·refine World.ownsRow.mono (base:=w.heap.size) (zas m fun k b=>heap_setCell_other w' ⟨s,0,.none⟩ k _ (fun e=>?_)) (by have:=h.lies;omega);have:=j k b;simp at e;omega
 rcases b with rfl|b
 ·exact .inl (.inl rfl)
 exact .inr (j k b)
theorem yie{w w':World}(h:w.grownBy w' (Value.slice none 0 0).ownBlock):Below w.heap.size w w':=⟨h.os,h.tape,h.output,h.size,fun k b=>h.block k b (fun e=>nomatch e)⟩
theorem yig{l:List Bk}{at' n:Int}{k:Nat}(b:posB at' l=k):yhg (putB l at' n)=(yhg (l.take k)++Bk.cells ⟨at',n⟩)++yhg (l.drop k):=by
 unfold putB;rw[b,yhj];show _++yhg ([⟨at',n⟩]++l.drop k)=_;rw[yhj,List.append_assoc];rfl
theorem yja{l:List Bk}{f:Bk->Bool}(i:Nat)(hi:i<l.length)(h:f l[i]=true):l.any f=true:=List.any_eq_true.2 ⟨_,List.getElem_mem hi,h⟩
theorem yi1{l:List Bk}{f:Bk->Bool}(h:∀ i (hi:i<l.length),f l[i]=false):l.any f=false:=by
 rw[List.any_eq_false];intro b hb;obtain⟨i,hi,rfl⟩:=List.getElem_of_mem hb;rw[h i hi];simp
theorem yje{B s:Nat}{w:World}{sl:Value}{W:Int}{l:List Bk}(h:RM B w s sl W l)(at' n:Int)(cu: -9223372036854775808<=at')(cv:at'<=9223372036854775807)(e7: -9223372036854775808<=n)(e8:n<=9223372036854775807):
  Calls Tryz.prog 113 #[some s,at',n] w fun e w'=>e= .returned (.bool (zwf W l at' n))/\∃ sl',RM B w' s sl' W (takeB W l at' n)/\Only (foot s sl) w w'/\∀ k,foot s sl' k->foot s sl k\/w.heap.size<=k:=by
 have c1:=h.cell1;have cq:0<=W:=h.ok.le;have cr:=h.small;by_cases hf:ydk W at' n=true;case neg=>
  have c7:zwf W l at' n=false:=by unfold zwf;rw[Bool.eq_false_iff.2 hf];rfl
  have cf:takeB W l at' n=l:=by unfold takeB;rw[if_neg (by rw[c7];simp)]
  rw[c7,cf];have bi:n<1\/(1<=n/\(at'<0\/(0<=at'/\(W<at'\/(at'<=W/\W-at'<n))))):=by simp only[ydk,decide_eq_true_eq]at hf;omega
  clear hf;rcases bi with e1|⟨e1,e2|⟨e2,e3|⟨e3,e4⟩⟩⟩;all_goals go_in;go_wp2;go_ret;exact⟨rfl,_,h,Only.refl _ _,fun k hk=>.inl hk⟩
 case pos=>
  have b8:=hf;simp only[ydk,decide_eq_true_eq]at b8;obtain⟨f1,f2,f3,f4⟩:=b8;have y:zwf W l at' n= !l.any (fun b=>meets b at' n):=by unfold zwf;rw[hf];rfl
  have c0:=h.cell0;have c5:=h.lt;have b9:=h.ok.mem;have bq:=h.ok.lt;have c8:=yis (at':=at') (n:=n) h.ok;have L:zwf W l at' n=true->takeB W l at' n=putB l at' n:=yiy;have q:zwf W l at' n=false->takeB W l at' n=l:=yiu;generalize takeB W l at' n=lt at *;generalize zwf W l at' n=ok at *;obtain⟨ao,cap,rfl,bw,cx,b2⟩:=h.rd.nth;have bz:=h.len;obtain⟨m,hm,c6⟩:=hidv l.length;have bp:=h.rd;rw[<-c6]at c0 bw bz bp h ⊢;clear c6 hf;obtain⟨i0,bk,bs,bu,bv⟩:=info_parts yjh;have ch:IntKind.i64.wrap (at'+n)=at'+n:=by rw[IntKind.wrap_i64];omega
  have cp:IntKind.i64.wrap (W-at')=W-at':=by rw[IntKind.wrap_i64];omega
  replace y:=hd' y;go_in;go_wp2;go_loopw [7,8,9] (fun vk vi _ wr=>∃ i k:Nat,i<=m/\k<=i/\vi= .int .i64 i/\vk= .int .i64 k/\Hid (∀ j (F:j<l.length),j<i->meets l[j] at' n=false)/\Hid (∀ j (F:j<l.length),j<k->l[j].a<at')/\Hid (∀ j (F:j<l.length),k<=j->j<i->at'<=l[j].a)/\Below w.heap.size w wr) (fun _ vi _ _=>m-(intOf vi).toNat);case atStart=>exact⟨0,0,Nat.zero_le _,Nat.le_refl _,rfl,rfl,hd' (fun j F h=>absurd h (Nat.not_lt_zero _)),hd' (fun j F h=>absurd h (Nat.not_lt_zero _)),hd' (fun j F _ h=>absurd h (Nat.not_lt_zero _)),Below.refl _ _⟩
  case round=>
   obtain⟨i,k,hi,bx,rfl,rfl,bm,X,V,p⟩:=hrel;have d0:=zai p _ _ _ c0;have d1:=zai p _ _ _ c1;have D:=p.size;have d2:=fun o=>zai (p.alloc D o) _ _ _ c0;have d3:=fun o=>zai ((p.drew).alloc D o) _ _ _ c0;by_cases c4:i<m
   ·have S:i<l.length:=hm.out ▸ c4;obtain⟨b,e9,rfl,hb,hc⟩:=b2 (fun e=>by rw[e]at S;simp at S);obtain⟨x0,x1⟩:=hc i S;replace x0:=zai p _ _ _ x0;replace x1:=zai p _ _ _ x1;obtain⟨g1,g2,g3⟩:=b9 _ (List.getElem_mem S);have cy:(i:Int)<(m:Int):=by omega
    have cm:(0:Int)<=(i:Int):=by omega
    have ca:IntKind.i64.wrap (l[i].a+l[i].n)=l[i].a+l[i].n:=by rw[IntKind.wrap_i64];omega
    have b6:meets l[i] at' n=true->l.any (fun b=>meets b at' n)=true:=yja (f:=fun b=>meets b at' n) i S;have I:meets l[i] at' n=false->∀ j (F:j<l.length),j<i+1->meets l[j] at' n=false:=fun hx j F h=>by
     rcases Nat.lt_or_ge j i with h1|h1
     ·exact bm.out j F h1
     have:j=i:=by omega
     subst this;exact hx
    have C:l[i].a<at'->∀ j (F:j<l.length),j<i+1->l[j].a<at':=fun hx j F h=>by
     rcases Nat.lt_or_ge j i with h1|h1
     ·have:=bq j i h1 S;have:=(b9 _ (List.getElem_mem F)).2.1;omega
     have:j=i:=by omega
     subst this;exact hx
    have z:at'<=l[i].a->∀ j (F:j<l.length),k<=j->j<i+1->at'<=l[j].a:=fun hx j F h h'=>by
     rcases Nat.lt_or_ge j i with h1|h1
     ·exact V.out j F h h1
     have:j=i:=by omega
     subst this;exact hx
    have U:meets l[i] at' n=decide (l[i].a<at'+n/\at'<l[i].a+l[i].n):=rfl;clear hc b2;generalize meets l[i] at' n=mt at *;generalize l[i].a=ba at *;generalize l[i].n=bn at *;by_cases h1:ba<at'+n
    ·by_cases h2:at'<ba+bn
     ·have e1:mt=true:=by rw[U];exact decide_eq_true ⟨h1,h2⟩
      have G:=b6 e1;have bb:ok=false:=by rw[y.out,G];rfl
      have Z:=q bb;subst bb;subst Z;clear b6 I C z U L q e1 G y;go_wp2;go_ret;exact⟨rfl,_,h.below (p.alloc D _),Only.of_below (p.alloc D _),fun k hk=>.inl hk⟩
     have e1:mt=false:=by rw[U];exact decide_eq_false (fun h=>h2 h.2)
     have b0:=hd' (I e1);by_cases h3:ba<at'
     ·have bh:=hd' (C h3);clear b6 I C z U L q;go_wp2;exact⟨⟨i+1,i+1,by omega,by omega,by go_num,by go_num,b0,bh,hd' (fun j F h h'=>by omega),p.alloc D _⟩,by simp[intOf];omega⟩
     omega
    have e1:mt=false:=by rw[U];exact decide_eq_false (fun h=>h1 h.1)
    have b0:=hd' (I e1);have h3:¬ ba<at':=by omega
    have bg:=hd' (z (by omega));clear b6 I C z U L q;go_wp2;exact⟨⟨i+1,k,by omega,by omega,by go_num,rfl,b0,X,bg,p.alloc D _⟩,by simp[intOf];omega⟩
   have cb:i=m:=by omega
   subst cb;have cz:¬ ((i:Int)<(i:Int)):=by omega
   have bf:posB at' l=k:=zvu at' l k (by have:=hm.out;omega) (fun j F cc=>X.out j cc F) (fun hk=>V.out k hk lr (by have:=hm.out;omega));have G:=yi1 (l:=l) (f:=fun b=>meets b at' n) (fun j F=>bm.out j F (by have:=hm.out;omega));have bc:ok=true:=by rw[y.out,G];rfl
   have Z:=L bc;subst bc;have b3:=yig (n:=n) bf;rw[<-Z]at b3;have bj:lt.length=k+1+(i-k):=by rw[Z,yh3,<- hm.out];omega
   replace b3:=hd' b3;replace bj:=hd' bj;have c9:=(yiq bp hm.out k bx).below p;have cd:=yix bp hm.out k bx;have e0:(0:Int)<=(k:Int):=by omega
   have e5:(k:Int)<=(cap:Int):=by omega
   have e6:(k:Int)<=(i:Int):=by omega
   clear bm X V c4 Z G bf L q y b2;go_wp2
   go_region_law
    (first|(refine zbg (by rfl) (.const (.slice none 0 0)) (.tmp 77) 194 (by rfl) w.heap.size 151 i0 _ 2 16 Tryz.underlying194 bk bs bu bv rfl (by omega) _ 0 [] (by rfl) (yi6 _ _ _ _) _ k (yhg (l.take k)) (by rfl) (by first|exact c9.drew|exact c9.drew.alloc _) (yh2 _) (by simp only[maxLen];omega) (by omega) (by first|exact D|(simp;omega)) ?_;intro v1 w1 r R cj;have H:=zaw (by first|exact p.drew|exact(p.drew).alloc (by simpa using D) _) (yi6 151 2 w.heap.size _) (by first|exact D|(simp;omega)) R;have O:=H.size;simp only[Nat.zero_add,List.nil_append]at r;have q1:=zai H _ _ _ c0;have q5:=(fun o=>zai (H.alloc O o) _ _ _ c0);have cg:=yie R)|(refine zbg (by rfl) (.tmp 78) (.tmp 82) 194 (by rfl) w.heap.size 151 i0 _ 2 16 Tryz.underlying194 bk bs bu bv rfl (by omega) _ k (yhg (l.take k)) (by rfl) (by first|exact r|exact r.alloc _) _ 1 (Bk.cells ⟨at',n⟩) (by rfl) (by first|exact RdS.new (cs:=(Bk.cells ⟨at',n⟩).toArray) (t:=151) (sz:=2) (n:=1) (heap_alloc_new w1 _) rfl (by omega)|exact(RdS.new (cs:=(Bk.cells ⟨at',n⟩).toArray) (t:=151) (sz:=2) (n:=1) (heap_alloc_new wr.drew _) rfl (by omega)).below cg) (Bk.one _) (by simp only[maxLen];omega) (by omega) (by first|exact O|(simp;omega)) ?_;intro v2 w2 b1 b4 ck;have N:=zaw (by first|exact H|exact H.alloc O _) (by first|exact r|exact r.alloc _) (by first|exact O|(simp;omega)) b4;have b7:=N.size;have q2:=zai N _ _ _ c0)|(refine zbg (by rfl) (.tmp 83) (.tmp 89) 194 (by rfl) w.heap.size 151 i0 _ 2 16 Tryz.underlying194 bk bs bu bv rfl (by omega) _ (k+1) (yhg (l.take k)++Bk.cells ⟨at',n⟩) (by rfl) b1 _ (i-k) (yhg (l.drop k)) (by rfl) (cd.below N) (yh2 _) (by simp only[maxLen];omega) (by omega) b7 ?_;intro v3 w3 M b5 cl;have Y:=zaw N b1 b7 b5;obtain⟨so,sc,rfl,_,_,_⟩:=RdS.zew M;have q3:=zai Y _ _ _ c0;have q4:w3.frozen? ⟨s,0,.none⟩=false:=zax ((Y.block s c5).trans h.head) 0))
   all_goals rw[<-b3.out]at M;obtain⟨m1,m2,m3⟩:=Mdl.reset h Y M bj.out c8;go_wp2;go_ret;exact⟨rfl,_,m1,m2,m3⟩
end

section

open Go.RowKit

attribute [local go_sem ↓] Go.wp_at_zero Go.wp_at_succ

attribute [local go_sem high] zm6 zml zky

theorem atB_get{W lo:Int}{l:List Bk}(h:okK W lo l)(i:Nat)(hi:i<l.length):atB l l[i].a=some l[i]:=by
 have f:=zvu l[i].a l i (by omega) (fun k m b=>by have:=h.lt k i m hi;have:=(h.mem _ (List.getElem_mem b)).2.1;omega) (fun _=>Int.le_refl _);have j:zd6 l[i].a l=true:=(zop _ _).2 ⟨by omega,by simp only[f]⟩;unfold atB;rw[if_pos j,f,List.getElem?_eq_getElem hi]
theorem atB_none{W lo a:Int}{l:List Bk}(h:okK W lo l)(j:∀ i (hi:i<l.length),l[i].a≠a):atB l a=none:=by
 unfold atB;rw[if_neg];intro f;obtain⟨b,hb,e⟩:=(zym h).1 f;obtain⟨i,hi,rfl⟩:=List.getElem_of_mem hb;exact j i hi e
theorem rat_any{B s:Nat}{w:World}{sl:Value}{W:Int}{l:List Bk}(h:RM B w s sl W l)(at':Int):
  Calls Tryz.prog 77 #[some s,at'] w fun e w'=>e= .returned (blkV (atB l at'))/\Below w.heap.size w w':=by
 have c0:=h.cell0;have R:=h.lt;obtain⟨ao,cap,rfl,C,V,r⟩:=h.rd.nth;have hs:=h.small;have D:=h.len;obtain⟨n,S,G⟩:=hidv l.length;rw[<-G]at c0 C D;clear G;go_in;go_wp2;go_loopw [6] (fun N wr=>∃ i:Nat,i<=n/\N= .int .i64 i/\(∀ j (z:j<l.length),j<i->l[j].a≠at')/\wr=w.alloc (.cells #[.int .i64 0,.int .i64 0] 151)) (fun N _=>n-(intOf N).toNat);case atStart=>exact⟨0,Nat.zero_le _,rfl,(fun j z h=>absurd h (Nat.not_lt_zero _)),by first|rfl|trivial⟩
 case round=>
  obtain⟨i,hi,rfl,p,rfl⟩:=hrel;have L:Below w.heap.size w (w.alloc (.cells #[.int .i64 0,.int .i64 0] 151)):=br.alloc lr _;by_cases F:i<n
  ·have y:i<l.length:=S.out ▸ F;obtain⟨b,b2,rfl,hb,hc⟩:=r (fun e=>by rw[e]at y;simp at y);obtain⟨x0,x1⟩:=hc i y;have o:=atB_get h.ok i y;have Z:(i:Int)<(n:Int):=by omega
   have Y:(0:Int)<=(i:Int):=by omega
   by_cases H:l[i].a=at'
   ·have m:blkV (atB l at')= .tuple #[.agg #[.int .i64 l[i].a,.int .i64 l[i].n],.bool true]:=by rw[<-H,o];rfl
    replace m:=hd' m;have b1:b≠w.heap.size:=by omega
    have U:s≠w.heap.size:=by omega
    clear o p hc r;generalize l[i].a=I at *;generalize l[i].n=O at *;subst H;go_wp2;exact bodyPost_ret (v:= .tuple #[.agg #[I,O],.bool true]) (by simp[results,Tryz.results77,go_sem]) rfl ⟨by rw[m.out],br.alloc lr _⟩
   have q:∀ j (z:j<l.length),j<i+1->l[j].a≠at':=fun j z h=>by
    rcases Nat.lt_or_ge j i with h1|h1
    ·exact p j z h1
    have:j=i:=by omega
    subst this;exact H
   replace q:=hd' q;clear o p hc r;generalize l[i].a=I at *;generalize l[i].n=O at *;have X:(I==at')=false:=by rw[beq_eq_false_iff_ne];exact H
   go_wp2;exact⟨⟨i+1,by omega,by go_num,q.out,by first|rfl|trivial⟩,by simp[intOf];omega⟩
  have M:i=n:=by omega
  subst M;have b0:¬ ((i:Int)<(i:Int)):=by omega
  have m:blkV (atB l at')= .tuple #[.agg #[.int .i64 0,.int .i64 0],.bool false]:=by rw[atB_none h.ok (fun j z=>p j z (by have:=S.out;omega))];rfl
  replace m:=hd' m;clear F p;go_wp2;exact bodyPost_ret (v:= .tuple #[.agg #[.int .i64 0,.int .i64 0],.bool false]) (by simp[results,Tryz.results77,go_sem]) rfl ⟨by rw[m.out],L⟩
theorem foundB_get{W lo:Int}{l:List Bk}(h:okK W lo l)(i:Nat)(hi:i<l.length):zd6 l[i].a l=true/\posB l[i].a l=i:=by
 have f:=zvu l[i].a l i (by omega) (fun k j b=>by have:=h.lt k i j hi;have:=(h.mem _ (List.getElem_mem b)).2.1;omega) (fun _=>Int.le_refl _);exact⟨(zop _ _).2 ⟨by omega,by simp only[f]⟩,f⟩
theorem foundB_none{W lo a:Int}{l:List Bk}(h:okK W lo l)(j:∀ i (hi:i<l.length),l[i].a≠a):zd6 a l=false:=by
 rw[Bool.eq_false_iff];intro f;obtain⟨b,hb,e⟩:=(zym h).1 f;obtain⟨i,hi,rfl⟩:=List.getElem_of_mem hb;exact j i hi e
theorem rgive_any{B s:Nat}{w:World}{sl:Value}{W:Int}{l:List Bk}(h:RM B w s sl W l)(at':Int):
  Calls Tryz.prog 114 #[some s,at'] w fun e w'=>e= .returned (.bool (zd6 at' l))/\∃ sl',RM B w' s sl' W (zse l at')/\Only (foot s sl) w w'/\∀ k,foot s sl' k->foot s sl k\/w.heap.size<=k:=by
 have c0:=h.cell0;have b0:=h.lt;have bp:=h.free;have b2:=z7z (at':=at') h.ok;obtain⟨ao,cap,rfl,V,bk,F⟩:=h.rd.nth;have hs:=h.small;have Y:=h.len;obtain⟨n,U,b1⟩:=hidv l.length;have O:=h.rd;rw[<-b1]at c0 V Y O h ⊢;clear b1;obtain⟨i0,X,b3,b4,b5⟩:=info_parts yjh;go_in;go_wp2;go_loopw [5] (fun vi wr=>∃ i:Nat,i<=n/\vi= .int .i64 i/\(∀ j (S:j<l.length),j<i->l[j].a≠at')/\wr=w) (fun vi _=>n-(intOf vi).toNat);case atStart=>exact⟨0,Nat.zero_le _,rfl,(fun j S h=>absurd h (Nat.not_lt_zero _)),by first|rfl|trivial⟩
 case round=>
  obtain⟨i,hi,rfl,C,bb⟩:=hrel;obtain rfl:=bb.symm;by_cases Z:i<n
  ·have I:i<l.length:=U.out ▸ Z;obtain⟨b,bw,rfl,hb,hc⟩:=F (fun e=>by rw[e]at I;simp at I);obtain⟨x0,x1⟩:=hc i I;have bs:(i:Int)<(n:Int):=by omega
   have bh:(0:Int)<=(i:Int):=by omega
   have bi:(i:Int)+1<=(n:Int):=by omega
   have bj:(0:Int)<=(i:Int)+1:=by omega
   by_cases R:l[i].a=at'
   ·obtain⟨m,y⟩:=foundB_get h.ok i I;rw[R]at m y;have o:zse l at'=l.take i++l.drop (i+1):=by unfold zse ya7;rw[if_pos m,y]
    have N:(zse l at').length=i+(n-(i+1)):=by rw[o,List.length_append,List.length_take,List.length_drop,<- U.out];omega
    have M:yhg (zse l at')=yhg (l.take i)++yhg (l.drop (i+1)):=by rw[o,yhj]
    replace o:=hd' o;replace N:=hd' N;replace M:=hd' M;replace y:=hd' y;have b8:=yiq O U.out i (by omega);have b9:=yix O U.out (i+1) (by omega);have bc:IntKind.i64.wrap ((i:Int)+1)=(i:Int)+1:=by rw[IntKind.wrap_i64];omega
    have bv:((i:Int)+1).toNat=i+1:=by omega
    have bq:(i:Int)<=(cap:Int):=by omega
    clear C hc F;replace R:=R;generalize l[i].a=ba at *;generalize l[i].n=bn at *;subst R;replace m:=hd' m;go_wp2
    go_region_law
     (first|(refine zbg (by rfl) (.const (.slice none 0 0)) (.tmp 31) 194 (by rfl) w.heap.size 151 i0 _ 2 16 Tryz.underlying194 X b3 b4 b5 rfl (by omega) _ 0 [] (by rfl) (yi6 _ _ _ _) _ i (yhg (l.take i)) (by rfl) b8.drew (yh2 _) (by simp only[maxLen];omega) (by omega) lr ?_;intro v1 w1 p G bf;have r:=zaw ((Below.refl w.heap.size w).drew) (yi6 151 2 w.heap.size w.drew) lr G;have L:=r.size;simp only[Nat.zero_add,List.nil_append]at p;have q1:=zai r _ _ _ c0)|(refine zbg (by rfl) (.tmp 32) (.tmp 39) 194 (by rfl) w.heap.size 151 i0 _ 2 16 Tryz.underlying194 X b3 b4 b5 rfl (by omega) _ i (yhg (l.take i)) (by rfl) p _ (n-(i+1)) (yhg (l.drop (i+1))) (by rfl) (b9.below r) (yh2 _) (by simp only[maxLen];omega) (by omega) L ?_;intro v2 w2 q H bg;have z:=zaw r p L H;obtain⟨so,sc,rfl,_,_,_⟩:=RdS.zew q;have q2:=zai z _ _ _ c0;have q3:w2.frozen? ⟨s,0,.none⟩=false:=zax ((z.block s b0).trans h.head) 0))
    all_goals rw[<-M.out]at q;obtain⟨m1,m2,m3⟩:=Mdl.reset h z q N.out b2;go_wp2;go_ret;exact⟨by rw[m.out];rfl,_,m1,m2,m3⟩
   have D:∀ j (S:j<l.length),j<i+1->l[j].a≠at':=fun j S h=>by
    rcases Nat.lt_or_ge j i with h1|h1
    ·exact C j S h1
    have:j=i:=by omega
    subst this;exact R
   replace D:=hd' D;clear C hc F;generalize l[i].a=ba at *;generalize l[i].n=bn at *;have bm:(ba==at')=false:=by rw[beq_eq_false_iff_ne];exact R
   go_wp2;exact⟨⟨i+1,by omega,by go_num,D.out,by first|rfl|trivial⟩,by simp[intOf];omega⟩
  have b6:i=n:=by omega
  subst b6;have bu:¬ ((i:Int)<(i:Int)):=by omega
  have m:zd6 at' l=false:=foundB_none h.ok (fun j S=>C j S (by have:=U.out;omega));have o:zse l at'=l:=by unfold zse;rw[if_neg (by rw[m];simp)]
  have b7:RM B w s (.slice ao i cap) W (zse l at'):=by rw[o];exact U.out ▸ h
  replace m:=hd' m;clear Z C o;go_wp2;go_ret;exact⟨by rw[m.out];rfl,_,b7,Only.refl _ _,fun k hk=>.inl hk⟩
end

section

open Go.RowKit

def rpC (p:Pt):List Value:= [.bool p.was,.bool p.lives,.bool p.asks,.bool p.took,.bool p.gave,.bool p.ab,.int .i64 p.k,.int .i64 p.a,.int .i64 p.n,.int .i64 p.at']
theorem rpC_len(p:Pt):(rpC p).length=10:=rfl
def rpsC (ps:List Pt):List Value:=ps.flatMap rpC
theorem rpsC_len(ps:List Pt):(rpsC ps).length=ps.length*10:=zll rpC 10 rpC_len ps
theorem rpsC_append(a b:List Pt):rpsC (a++b)=rpsC a++rpsC b:=by simp[rpsC]
theorem rpsC_get(ps:List Pt)(i j:Nat)(hi:i<ps.length)(b:j<10):(rpsC ps)[i*10+j]?=(rpC ps[i])[j]?:=zsm rpC 10 rpC_len ps i j hi b
theorem rpsC_set(ps:List Pt)(i j:Nat)(v:Value)(q:Pt)(hi:i<ps.length)(b:j<10)(m:(rpC ps[i]).set j v=rpC q):(rpsC ps).set (i*10+j) v=rpsC (ps.set i q):=by
 have e:ps=ps.take i++ps[i]::ps.drop (i+1):=by rw[List.getElem_cons_drop,List.take_append_drop]
 have f:(ps.take i).length=i:=by rw[List.length_take];omega
 have n:ps.set i q=ps.take i++q::ps.drop (i+1):=by rw[List.set_eq_take_append_cons_drop,if_pos hi]
 have h1:rpsC ps=rpsC (ps.take i)++(rpC ps[i]++rpsC (ps.drop (i+1))):=by
  conv=>lhs;rw[e]
  rw[rpsC_append];rfl
 have h2:rpsC (ps.set i q)=rpsC (ps.take i)++(rpC q++rpsC (ps.drop (i+1))):=by rw[n,rpsC_append];rfl
 have h3:(rpsC (ps.take i)).length=i*10:=by rw[rpsC_len,f]
 rw[h1,h2,List.set_append_right _ _ (by omega),h3,Nat.add_sub_cancel_left,List.set_append_left _ _ (by rw[rpC_len];exact b),m]
def RrP (w:World) (pb:Nat) (ps:List Pt):Prop:=w.heap[pb]?=some (.cells (rpsC ps).toArray 155 (0,0))
section

variable {w w':World} {pb:Nat} {ps:List Pt}

theorem RrP.lt(h:RrP w pb ps):pb<w.heap.size:=(Array.getElem?_eq_some_iff.1 h).1
theorem RrP.of_block(h:RrP w pb ps)(hb:w'.heap[pb]?=w.heap[pb]?):RrP w' pb ps:=hb.trans h
theorem RrP.cell(h:RrP w pb ps)(i j:Nat)(hi:i<ps.length)(b:j<10):w.cell? ⟨pb,i*10+j,.none⟩=(rpC ps[i])[j]?:=by
 rw[zac h,List.getElem?_toArray];exact rpsC_get ps i j hi b
theorem RrP.fr(h:RrP w pb ps)(j:Nat):w.frozen? ⟨pb,j,.none⟩=false:=zax h j
theorem RrP.set(h:RrP w pb ps)(i j:Nat)(v:Value)(q:Pt)(hi:i<ps.length)(b:j<10)(f:(rpC ps[i]).set j v=rpC q):RrP (w.setCell ⟨pb,i*10+j,.none⟩ v) pb (ps.set i q):=by
 unfold RrP at *;rw[heap_setCell_same w pb _ _ _ _ h,List.setIfInBounds_toArray,rpsC_set ps i j v q hi b f]
end

structure RpAt (w:World) (b o:Nat) (p:Pt):Prop where
 lt:b < w.heap.size
 c0:w.cell? ⟨b,o,.none⟩=some (.bool p.was)
 c1:w.cell? ⟨b,o + 1,.none⟩=some (.bool p.lives)
 c2:w.cell? ⟨b,o + 2,.none⟩=some (.bool p.asks)
 c3:w.cell? ⟨b,o + 3,.none⟩=some (.bool p.took)
 c4:w.cell? ⟨b,o + 4,.none⟩=some (.bool p.gave)
 c5:w.cell? ⟨b,o + 5,.none⟩=some (.bool p.ab)
 c6:w.cell? ⟨b,o + 6,.none⟩=some (.int .i64 p.k)
 c7:w.cell? ⟨b,o + 7,.none⟩=some (.int .i64 p.a)
 c8:w.cell? ⟨b,o + 8,.none⟩=some (.int .i64 p.n)
 c9:w.cell? ⟨b,o + 9,.none⟩=some (.int .i64 p.at')
 fr:∀ j,w.frozen? ⟨b,j,.none⟩=false
theorem RrP.pt{w:World}{pb:Nat}{ps:List Pt}(h:RrP w pb ps)(i:Nat)(hi:i<ps.length){p:Pt}(b:ps[i]=p):RpAt w pb (i*10) p:=by
 subst b;exact⟨h.lt,h.cell i 0 hi (by omega),h.cell i 1 hi (by omega),h.cell i 2 hi (by omega),h.cell i 3 hi (by omega),h.cell i 4 hi (by omega),h.cell i 5 hi (by omega),h.cell i 6 hi (by omega),h.cell i 7 hi (by omega),h.cell i 8 hi (by omega),h.cell i 9 hi (by omega),h.fr⟩
theorem RpAt.below{w w':World}{b o:Nat}{p:Pt}(h:RpAt w b o p)(hb:Below w.heap.size w w'):RpAt w' b o p:=
 ⟨Nat.lt_of_lt_of_le h.lt hb.size,zai hb _ _ _ h.c0,zai hb _ _ _ h.c1,zai hb _ _ _ h.c2,zai hb _ _ _ h.c3,zai hb _ _ _ h.c4,zai hb _ _ _ h.c5,zai hb _ _ _ h.c6,zai hb _ _ _ h.c7,zai hb _ _ _ h.c8,zai hb _ _ _ h.c9,fun j=>(hb.frozen (p:=⟨b,j,.none⟩) h.lt).trans (h.fr j)⟩
def atR (b:Nat):Nat->Prop:=fun k=> k=b
theorem RrP.put{w X:World}{pb i:Nat}{ps:List Pt}{q q':Pt}(hi:i<ps.length)(j:Nat)(v:Value)(h1:Only (atR pb) w X)(h2:RrP X pb (ps.set i q))(h4:(rpC q).set j v=rpC q')(b:j<10):Only (atR pb) w (X.setCell ⟨pb,i*10+j,.none⟩ v)/\RrP (X.setCell ⟨pb,i*10+j,.none⟩ v) pb (ps.set i q'):=by
 refine⟨h1.setCell (p:=⟨pb,i*10+j,.none⟩) (.inl rfl) v,?_⟩;have:=h2.set i j v q' (by rw[List.length_set];exact hi) b (by rw[List.getElem_set_self];exact h4);rwa [List.set_set]at this
def rvV (pb n:Nat):Value:= .slice (some ⟨pb,0,.none⟩) n n
structure JrA (B:Nat) (w:World) (jb s pb:Nat) (sl:Value) (J:Jd):Prop where
 head:w.heap[jb]?=some (.cells #[some s,rvV pb J.ps.length,J.m,J.at',J.why] 103 (0,0))
 model:RM B w s sl J.W J.l
 row:RrP w pb J.ps
 lies:B<=jb/\B<=pb
 apart:jb≠s/\pb≠s/\pb≠jb/\sl.ownBlock≠some jb/\sl.ownBlock≠some pb
def footR (jb s pb:Nat) (sl:Value):Nat->Prop:=fun k=> k=jb\/k=pb\/foot s sl k
section

variable {B:Nat} {w w':World} {jb s pb:Nat} {sl sl':Value} {J:Jd}

theorem JrA.lt(h:JrA B w jb s pb sl J):jb<w.heap.size:=(Array.getElem?_eq_some_iff.1 h.head).1
theorem JrA.below(h:JrA B w jb s pb sl J)(hb:Below w.heap.size w w'):JrA B w' jb s pb sl J:=
 ⟨(hb.block _ h.lt).trans h.head,h.model.below hb,h.row.of_block (hb.block _ h.row.lt),h.lies,h.apart⟩
theorem JrA.h0(h:JrA B w jb s pb sl J):w.cell? ⟨jb,0,.none⟩=some (.pointer (some ⟨s,0,.none⟩)):=zac h.head 0
theorem JrA.h1(h:JrA B w jb s pb sl J):w.cell? ⟨jb,1,.none⟩=some (rvV pb J.ps.length):=zac h.head 1
theorem JrA.h2(h:JrA B w jb s pb sl J):w.cell? ⟨jb,2,.none⟩=some (.int .i64 J.m):=zac h.head 2
theorem JrA.h3(h:JrA B w jb s pb sl J):w.cell? ⟨jb,3,.none⟩=some (.int .i64 J.at'):=zac h.head 3
theorem JrA.h4(h:JrA B w jb s pb sl J):w.cell? ⟨jb,4,.none⟩=some (.int .i64 J.why):=zac h.head 4
theorem JrA.fr(h:JrA B w jb s pb sl J)(i:Nat):w.frozen? ⟨jb,i,.none⟩=false:=zax h.head i
theorem JrA.foot_lt(h:JrA B w jb s pb sl J):∀ k,footR jb s pb sl k->B<=k/\k<w.heap.size:=by
 rintro k (rfl|rfl|rfl|e)
 ·exact⟨h.lies.1,h.lt⟩
 ·exact⟨h.lies.2,h.row.lt⟩
 ·exact⟨h.model.lies,h.model.lt⟩
 exact h.model.owns.lt k e
theorem JrA.blocks(h:JrA B w jb s pb sl J)(hb:∀ k,footR jb s pb sl k->w'.heap[k]?=w.heap[k]?):JrA B w' jb s pb sl J:=
 ⟨(hb _ (.inl rfl)).trans h.head,h.model.blocks fun k b=>hb k (.inr (.inr b)),h.row.of_block (hb _ (.inr (.inl rfl))),h.lies,h.apart⟩
theorem JrA.setM(h:JrA B w jb s pb sl J){l':List Bk}(r:RM B w' s sl' J.W l')(m:Only (foot s sl) w w')(i:∀ k,foot s sl' k->foot s sl k\/w.heap.size<=k):JrA B w' jb s pb sl' {J with l:=l'}:=by
 obtain⟨b,f,o,p,q⟩:=h.apart;have j:¬ foot s sl jb:=by rintro(e|e);exact b e;exact p e
 have n:¬ foot s sl pb:=by rintro(e|e);exact f e;exact q e
 refine⟨(m.block _ h.lt j).trans h.head,r,h.row.of_block (m.block _ h.row.lt n),h.lies,b,f,o,fun e=>?_,fun e=>?_⟩
 ·rcases i jb (.inr e) with h1|h1
  ·exact j h1
  have:=h.lt;omega
 rcases i pb (.inr e) with h1|h1
 ·exact n h1
 have:=h.row.lt;omega
theorem JrA.setP(h:JrA B w jb s pb sl J){qs:List Pt}(o:qs.length=J.ps.length)(p:RrP w' pb qs)(f:Only (atR pb) w w'):JrA B w' jb s pb sl {J with ps:=qs}:=by
 obtain⟨q,j,m,r,n⟩:=h.apart;refine⟨?_,?_,p,h.lies,h.apart⟩
 ·show w'.heap[jb]?=_;rw[f.block _ h.lt (fun e=>m e.symm),h.head,o]
 have b:=h.model;exact⟨b.lies,(f.block _ b.lt (fun e=>j e.symm)).trans b.head,zas b.owns fun k i=>f.block _ (b.owns.lt k i).2 (fun e=>n (by rw[i,e])),b.apart,b.ok,b.small⟩
theorem JrA.setN(h:JrA B w jb s pb sl J)(m:Int):JrA B (w.setCell ⟨jb,2,.none⟩ (.int .i64 m)) jb s pb sl {J with m:=m}/\Only (atR jb) w (w.setCell ⟨jb,2,.none⟩ (.int .i64 m)):=by
 obtain⟨j,q,n,o,r⟩:=h.apart;have f:Only (atR jb) w (w.setCell ⟨jb,2,.none⟩ (.int .i64 m)):=(Only.refl (atR jb) w).setCell (p:=⟨jb,2,.none⟩) (.inl (show atR jb jb from rfl)) _;refine⟨⟨by rw[heap_setCell_same w jb 2 _ _ _ h.head];rfl,?_,h.row.of_block (f.block _ h.row.lt (fun e=>n e)),h.lies,h.apart⟩,f⟩;have b:=h.model;exact⟨b.lies,(f.block _ b.lt (fun e=>j e.symm)).trans b.head,zas b.owns fun k i=>f.block _ (b.owns.lt k i).2 (fun e=>o (by rw[i,e])),b.apart,b.ok,b.small⟩
end

structure LeftR (B:Nat) (w w':World) (jb s pb:Nat) (sl:Value) (J':Jd):Prop where
 judge:∃ sl',JrA B w' jb s pb sl' J'/\(∀ k,sl'.ownBlock=some k->sl.ownBlock=some k\/w.heap.size<=k)
 only:Only (footR jb s pb sl) w w'
theorem LeftR.lower{B:Nat}{w W w':World}{jb s pb:Nat}{sl:Value}{J:Jd}(hb:Below w.heap.size w W)(i:LeftR B W w' jb s pb sl J):LeftR B w w' jb s pb sl J:=by
 obtain⟨⟨sl',b,f⟩,j⟩:=i;refine⟨⟨sl',b,fun k e=>?_⟩,(Only.of_below hb).trans j fun _ _ e=>e⟩;rcases f k e with h1|h1
 ·exact .inl h1
 exact .inr (by have:=hb.size;omega)
structure Fine (W:Int) (l:List Bk) (p:Pt) (e:Ev) (l':List Bk) (v:Pt):Prop where
 kinds:(e.k=0/\p.was=false/\l'=l/\v= { p with was:=true,lives:=true })\/
  (e.k=1/\p.lives=true/\(p.asks=true->p.took=false)/\l'=l/\v= { p with lives:=false,asks:=false })\/
  (e.k=2/\p.lives=true/\p.asks=false/\1<=e.ok/\e.ok<=4/\l'=l/\v=⟨true,true,true,e.ok,e.oa,e.on,false,false,0,false⟩)\/
  (e.k=3/\p.lives=true/\p.asks=true/\(p.k=1\/p.k≠1/\p.k=3/\p.gave=true)/\p.took=false/\lenB p.n=true/\lenV p.n=e.n/\zwf W l e.at' e.n=true/\l'=putB l e.at' e.n/\v= { p with took:=true,at':=e.at' })\/
  (e.k=4/\p.lives=true/\p.asks=true/\(p.k=2\/p.k≠2/\p.k=3)/\p.gave=false/\e.at'=p.a/\zd6 e.at' l=true/\l'=zse l e.at'/\v= { p with gave:=true })\/
  (e.k=5/\p.lives=true/\p.asks=true/\zd9 p e=true/\l'=l/\v= { p with asks:=false })
theorem fine_of{J:Jd}{e:Ev}(h:(whyJ J.W J.l J.ps e).c=0):∃ (i:Nat) (p v:Pt) (l':List Bk) (hi:i<J.ps.length),e.c=(i:Int)/\J.ps[i]=p/\Fine J.W J.l p e l' v/\(whyJ J.W J.l J.ps e).l=l'/\(whyJ J.W J.l J.ps e).ps=J.ps.set i v:=by
 unfold whyJ at h ⊢;split at h
 ·cases h
 rename_i hc;rw[if_neg hc];obtain⟨i,hi⟩:∃ i:Nat,e.c=(i:Int):=⟨e.c.toNat,by omega⟩;have o:i<J.ps.length:=by omega
 have y:e.c.toNat=i:=by omega
 have C:J.ps.getD i Pt.zero=J.ps[i]:=by rw[List.getD_eq_getElem?_getD,List.getElem?_eq_getElem o];rfl
 rw[y,C]at h ⊢;generalize L:J.ps[i]=p at *;have b:∀ (l':List Bk) (v:Pt),Fine J.W J.l p e l' v->∃ (i':Nat) (G v':Pt) (q:List Bk) (I:i'<J.ps.length),e.c=(i':Int)/\J.ps[i']=G/\Fine J.W J.l G e q v'/\l'=q/\J.ps.set i v=J.ps.set i' v':=fun l' v H=>⟨i,p,v,l',o,hi,L,H,rfl,rfl⟩;split at h
 ·rename_i h3;rw[if_pos h3];dsimp only at h ⊢;have hb:zkj p e=if e.k=0 then {p with was:=true,lives:=true} else if e.k=1 then {p with lives:=false,asks:=false} else⟨true,true,true,e.ok,e.oa,e.on,false,false,0,false⟩:=by unfold zkj;rw[if_neg (by omega)]
  rw[hb];unfold zf0 at h;by_cases h0:e.k=0
  ·rw[if_pos h0]at h ⊢;refine b _ _ ⟨.inl ⟨h0,?_,rfl,rfl⟩⟩;cases hw:p.was with
   |false=>rfl
   |true=>rw[hw]at h;cases h
  rw[if_neg h0]at h ⊢;by_cases h1:e.k=1
  ·rw[if_pos h1]at h ⊢;refine b _ _ ⟨.inr (.inl ⟨h1,?_,?_,rfl,rfl⟩)⟩
   ·cases hw:p.lives with
    |true=>rfl
    |false=>rw[hw]at h;cases h
   intro r;cases f:p.took with
   |false=>rfl
   |true=>
    cases hw:p.lives with
    |true=>rw[hw,if_neg (by decide),if_pos ⟨r,f⟩]at h;cases h
    |false=>rw[hw]at h;cases h
  rw[if_neg h1]at h ⊢;split at h
  ·cases h
  rename_i z;simp only[not_or,Bool.not_eq_false,Bool.not_eq_true]at z;exact b _ _ ⟨.inr (.inr (.inl ⟨by omega,z.1,z.2.1,by omega,by omega,rfl,rfl⟩))⟩
 rename_i h3;rw[if_neg h3];split at h
 ·cases h
 rename_i j;rw[if_neg j];simp only[not_or,Bool.not_eq_false]at j;by_cases h4:e.k=3
 ·rw[if_pos h4]at h ⊢;split at h
  ·rename_i f;rw[if_pos f];refine b _ _ ⟨.inr (.inr (.inr (.inl ?_)))⟩;unfold z8g at f;split at f
   ·cases f
   rename_i hb;simp only[not_or,Bool.not_eq_false,Bool.not_eq_true,ne_eq,Decidable.not_not]at hb;obtain⟨k1,D,F,M⟩:=hb;split at f
   ·rename_i n;refine⟨h4,j.1,j.2,?_,D,F,M,n,rfl,rfl⟩;simp only[mayT,Bool.or_eq_true,decide_eq_true_eq,Bool.and_eq_true]at k1;by_cases m:p.k=1
    ·exact .inl m
    exact .inr ⟨m,by rcases k1 with k1|k1;exact absurd k1 m;exact k1⟩
   cases f
  rename_i f;exact absurd h f
 rw[if_neg h4]at h ⊢;by_cases t:e.k=4
 ·rw[if_pos t]at h ⊢;split at h
  ·rename_i f;rw[if_pos f];refine b _ _ ⟨.inr (.inr (.inr (.inr (.inl ?_))))⟩;unfold z8m at f;split at f
   ·cases f
   rename_i hb;simp only[not_or,Bool.not_eq_false,Bool.not_eq_true,ne_eq,Decidable.not_not]at hb;obtain⟨k1,D,F⟩:=hb;split at f
   ·rename_i n;refine⟨t,j.1,j.2,?_,D,F,n,rfl,rfl⟩;simp only[mayG,Bool.or_eq_true,decide_eq_true_eq]at k1;by_cases m:p.k=2
    ·exact .inl m
    exact .inr ⟨m,by rcases k1 with k1|k1;exact absurd k1 m;exact k1⟩
   cases f
  rename_i f;exact absurd h f
 rw[if_neg t]at h ⊢;split at h
 ·rename_i r;rw[if_pos r];exact b _ _ ⟨.inr (.inr (.inr (.inr (.inr ⟨by omega,j.1,j.2,r,rfl,rfl⟩))))⟩
 cases h
end

section

open Go.RowKit

attribute [local go_sem ↓] Go.wp_at_zero Go.wp_at_succ

theorem ranswers_any(p:Pt)(e:Ev)(b o:Nat)(w:World)(h:RpAt w b o p):
  Calls Tryz.prog 115 #[.pointer (some ⟨b,o,.none⟩),e.val] w fun r w'=>r= .returned (.bool (zd9 p e))/\Below w.heap.size w w':=by
 unfold Ev.val Ev.cells;have i:=fun X=>yi5 p.n X;have j:=(Below.refl w.heap.size w).alloc lr (.cells #[e.k,e.c,e.ok,e.oa,e.on,e.at',e.n,e.er] 77);have h2:=h.below j;have q:=heap_alloc_new w (.cells #[e.k,e.c,e.ok,e.oa,e.on,e.at',e.n,e.er] 77);go_in;go_upto_region 1 with fail;generalize w.alloc (.cells #[e.k,e.c,e.ok,e.oa,e.on,e.at',e.n,e.er] 77)=W at *;obtain⟨G,c0,c1,c2,c3,c4,c5,c6,c7,c8,c9,m⟩:=h2;have y:=zac q 5;have z:=zac q 7;clear c0 c1 c2 c7 m q h;have D:W.cell? ⟨w.heap.size,5,.none⟩=some (.int .i64 e.at'):=y;have F:W.cell? ⟨w.heap.size,7,.none⟩=some (.int .i64 e.er):=z;clear y z;replace i:=hd' i;go_wp2_with (first|(go_at_call 112;(with_reducible refine(i.out _).mono ?_);rintro r I ⟨rfl,H⟩;obtain rfl:=H.symm))
 all_goals first
  |go_returns
  |(rcases Bool.eq_false_or_eq_true p.took with C|C<;>rw[C]at c3<;>(go_quiet (fail))<;>go_wp2<;>go_returns)
 all_goals exact⟨zg6 (by clear c3 c4 c5 c6 c8 c9 D F i j;first|(simp_all [zd9,zzo,zie];done)|(rw[Bool.eq_iff_iff];simp_all [zd9,zzo,zie])),by first|exact j|exact below_drewN j _⟩
theorem rtook_any{B:Nat}{w:World}{jb s pb:Nat}{sl:Value}{J:Jd}(h:JrA B w jb s pb sl J)(e:Ev)(i o:Nat)(p:Pt)(hi:i<J.ps.length)(hp:J.ps[i]=p)(G:o=i*10)
  (U:e.k=3/\(p.k=1\/p.k≠1/\p.k=3/\p.gave=true)/\p.took=false/\lenB p.n=true/\lenV p.n=e.n/\zwf J.W J.l e.at' e.n=true):
  Calls Tryz.prog 98 #[some jb,.pointer (some ⟨pb,o,.none⟩),e.val] w fun r w'=>r= .returned (.int .i64 0)/\LeftR B w w' jb s pb sl {J with l:=putB J.l e.at' e.n,ps:=J.ps.set i {p with took:=true,at':=e.at'}}:=by
 obtain⟨O,U,ht,hl,hv,m⟩:=U;replace O:=hd' O;have bb:(-9223372036854775808<=e.at'/\e.at'<=9223372036854775807)/\(-9223372036854775808<=e.n/\e.n<=9223372036854775807):=by
  have h1:ydk J.W e.at' e.n=true:=by unfold zwf at m;exact(Bool.and_eq_true_iff.1 m).1
  have h2:=h.model.small;simp only[ydk,decide_eq_true_eq]at h1;omega
 obtain⟨ha,hn⟩:=bb;unfold Ev.val Ev.cells;have y:=(Below.refl w.heap.size w).alloc lr (.cells #[e.k,e.c,e.ok,e.oa,e.on,e.at',e.n,e.er] 77);have V:=heap_alloc_new w (.cells #[e.k,e.c,e.ok,e.oa,e.on,e.at',e.n,e.er] 77);have hJ:=h.below y;obtain⟨bj,c0,c1,c2,c3,c4,c5,c6,c7,c8,c9,bc⟩:=G ▸ (hJ.row.pt i hi hp);replace G:=hd' G;replace hp:=hd' hp;replace hi:=hd' hi;have bk:=h.lt;have bm:=h.row.lt;have bn:=h.model.lt;have bg:∀ k,sl.ownBlock=some k->k<w.heap.size:=fun k U=>(h.model.owns.lt k U).2;have b:=fun X=>yi5 p.n X;rw[hl,hv]at b;replace b:=hd' b;have bu:(e.n !=e.n)=false:=by simp
 have I:Hid (∀ X,RM B X s sl J.W J.l->Calls Tryz.prog 113 #[some s,e.at',e.n] X fun r w'=>r= .returned (.bool true)/\∃ sl',RM B w' s sl' J.W (putB J.l e.at' e.n)/\Only (foot s sl) X w'/\∀ k,foot s sl' k->foot s sl k\/X.heap.size<=k):=hd' fun X hX=>by have:=yje hX e.at' e.n ha.1 ha.2 hn.1 hn.2;rwa [yiy m,m]at this
 have F:Hid (∀ X j sl',Below w.heap.size w X->JrA B X jb s pb sl J->RM B j s sl' J.W (putB J.l e.at' e.n)->Only (foot s sl) X j->(∀ k,foot s sl' k->foot s sl k\/X.heap.size<=k)->LeftR B w j jb s pb sl {J with l:=putB J.l e.at' e.n}):=hd' fun X j sl' hw hj hm G hf=>LeftR.lower hw ⟨⟨sl',hj.setM hm G hf,fun k e=>by
  rcases hf k (.inr e) with(h1|h1)|h1
  ·exact absurd (h1 ▸ e) hm.apart
  ·exact .inl h1
  ·exact .inr h1⟩,G.mono' fun k e=>.inr (.inr e)⟩
 clear hl hv m;rcases U with U|⟨bq,bs,hg⟩;all_goals
  go_in;go_upto_region 1 with fail;generalize w.alloc (.cells #[e.k,e.c,e.ok,e.oa,e.on,e.at',e.n,e.er] 77)=W at *;obtain⟨E,hE,Z⟩:=hidv w.heap.size;rw[<-Z]at V ⊢;have e0:W.cell? ⟨E,0,.none⟩=some (.int .i64 e.k):=zac V 0;rw[O.out]at e0;have e5:W.cell? ⟨E,5,.none⟩=some (.int .i64 e.at'):=zac V 5;have b6:=zac V;have h0:=hJ.h0;have lj:jb<W.heap.size:=hJ.lt;have lE:E<W.heap.size:=(Array.getElem?_eq_some_iff.1 V).1;clear Z;go_upto_region 10 with(first|(go_at_call 112;(with_reducible refine(b.out _).mono ?_);rintro r w1 ⟨rfl,hw⟩;obtain rfl:=hw.symm));refine wret 8 ?_;repeat (go_big_quiet_step (fail))
  refine wqn fun X ba=>?_;have z:=ba;have bh:=y.trans (z.mono y.size);have N:=hJ.below z;have q:=zai z _ _ _ e5;have b5:E<X.heap.size:=zqe q;clear c0 c1 c2 c3 c4 c5 c6 c7 c8 c9 bc e0 e5 b6 h0 V z y hJ;go_wp2_with (first|(go_at_call 113;(with_reducible refine(I.out X N.model).mono ?_);rintro r j ⟨rfl,sl',hm,S,b1⟩));have b9:=F.out X j sl' bh N hm S b1;obtain⟨⟨bi,M,bf⟩,b0⟩:=b9;have b7:¬ foot s sl E:=by
   have bp:=hE.out;rintro(e|e)
   ·omega
   have:=bg E e;omega
  have L:j.cell? ⟨E,5,.none⟩=some (.int .i64 e.at'):=by have:=S.block E b5 b7;simp only[World.cell?,this]at q ⊢;exact q
  have bv:E<j.heap.size:=zqe L;have D:RrP j pb J.ps:=M.row;have bw:pb<j.heap.size:=D.lt;have b8:E≠pb:=by have:=hE.out;omega
  have C:RpAt j pb o p:=G.out ▸ (D.pt i hi.out hp.out);have p3:=C.c3;have p9:=C.c9;have pf:=C.fr;have H:RrP j pb (J.ps.set i p):=by rw[<-hp.out,List.set_getElem_self];exact D
  have z0:=RrP.put (q':= {p with took:=true}) hi.out 3 (.bool true) (Only.refl (atR pb) j) H rfl (by omega);have z1:=RrP.put (q':= {p with took:=true,at':=e.at'}) hi.out 9 (.int .i64 e.at') z0.1 z0.2 rfl (by omega);rw[<-G.out]at z1;have R:Hid (∀ W3,RrP W3 pb (J.ps.set i {p with took:=true,at':=e.at'})->Only (atR pb) j W3->LeftR B w W3 jb s pb sl {J with l:=putB J.l e.at' e.n,ps:=J.ps.set i {p with took:=true,at':=e.at'}}):=hd' fun W3 hr b4=>⟨⟨bi,M.setP (by rw[List.length_set]) hr b4,bf⟩,b0.trans b4 fun k _ e=>.inr (.inl e)⟩;replace z1:=hd' z1;clear z0 H C D M hm S b1 b0 F I N q b5;have b3:Hid (∀ (Y:World) (a:Nat) (v:Value),Y.cell? ⟨E,5,.none⟩=some (.int .i64 e.at')->(Y.setCell ⟨pb,a,.none⟩ v).cell? ⟨E,5,.none⟩=some (.int .i64 e.at')):=hd' fun Y a v h=>by have:=heap_setCell_other Y ⟨pb,a,.none⟩ E v (by simpa using b8);simp only[World.cell?,this]at h ⊢;exact h
  have b2:Hid (∀ (Y:World) (a:Nat) (v:Value),Y.cell? ⟨E,5,.none⟩=some (.int .i64 e.at')->(Y.setCell ⟨pb,a,.none⟩ v).drew.cell? ⟨E,5,.none⟩=some (.int .i64 e.at')):=hd' fun Y a v h=>b3.out Y a v h
  go_region_held3 (fun Y=>Y.cell? ⟨E,5,.none⟩=some (.int .i64 e.at'))
   (first|exact b2.out _ _ _ L|exact b2.out _ _ _ (b3.out _ _ _ L)|go_keep)
   (fail)
  go_wp2;go_ret;exact⟨rfl,R.out _ z1.out.2 z1.out.1.drew⟩
theorem rgave_any{B:Nat}{w:World}{jb s pb:Nat}{sl:Value}{J:Jd}(h:JrA B w jb s pb sl J)(e:Ev)(i o:Nat)(p:Pt)(hi:i<J.ps.length)(hp:J.ps[i]=p)(z:o=i*10)
  (N:e.k=4/\(p.k=2\/p.k≠2/\p.k=3)/\p.gave=false/\e.at'=p.a/\zd6 e.at' J.l=true):
  Calls Tryz.prog 98 #[some jb,.pointer (some ⟨pb,o,.none⟩),e.val] w fun r w'=>r= .returned (.int .i64 0)/\LeftR B w w' jb s pb sl {J with l:=zse J.l e.at',ps:=J.ps.set i {p with gave:=true}}:=by
 obtain⟨L,N,hg,Z,b1⟩:=N;replace L:=hd' L;have bb:(e.at' !=p.a)=false:=by simpa using Z
 clear Z;unfold Ev.val Ev.cells;have G:=(Below.refl w.heap.size w).alloc lr (.cells #[e.k,e.c,e.ok,e.oa,e.on,e.at',e.n,e.er] 77);have O:=heap_alloc_new w (.cells #[e.k,e.c,e.ok,e.oa,e.on,e.at',e.n,e.er] 77);have U:=h.below G;obtain⟨bc,c0,c1,c2,c3,c4,c5,c6,c7,c8,c9,b7⟩:=z ▸ (U.row.pt i hi hp);replace z:=hd' z;replace hp:=hd' hp;replace hi:=hd' hi;have bf:=h.lt;have bg:=h.row.lt;have bh:=h.model.lt;have bk:∀ k,sl.ownBlock=some k->k<w.heap.size:=fun k N=>(h.model.owns.lt k N).2;have y:Hid (∀ X,RM B X s sl J.W J.l->Calls Tryz.prog 114 #[some s,e.at'] X fun r w'=>r= .returned (.bool true)/\∃ sl',RM B w' s sl' J.W (zse J.l e.at')/\Only (foot s sl) X w'/\∀ k,foot s sl' k->foot s sl k\/X.heap.size<=k):=hd' fun X hX=>by have:=rgive_any hX e.at';rwa [b1]at this
 have q:Hid (∀ X b sl',Below w.heap.size w X->JrA B X jb s pb sl J->RM B b s sl' J.W (zse J.l e.at')->Only (foot s sl) X b->(∀ k,foot s sl' k->foot s sl k\/X.heap.size<=k)->LeftR B w b jb s pb sl {J with l:=zse J.l e.at'}):=hd' fun X b sl' hw hj hm z hf=>LeftR.lower hw ⟨⟨sl',hj.setM hm z hf,fun k e=>by
  rcases hf k (.inr e) with(h1|h1)|h1
  ·exact absurd (h1 ▸ e) hm.apart
  ·exact .inl h1
  ·exact .inr h1⟩,z.mono' fun k e=>.inr (.inr e)⟩
 clear b1;rcases N with N|⟨bi,bj⟩;all_goals
  go_in;go_upto_region 1 with fail;generalize w.alloc (.cells #[e.k,e.c,e.ok,e.oa,e.on,e.at',e.n,e.er] 77)=W at *;obtain⟨E,hE,S⟩:=hidv w.heap.size;rw[<-S]at O ⊢;have e0:W.cell? ⟨E,0,.none⟩=some (.int .i64 e.k):=zac O 0;rw[L.out]at e0;have e5:W.cell? ⟨E,5,.none⟩=some (.int .i64 e.at'):=zac O 5;have b3:=zac O;have h0:=U.h0;have lj:jb<W.heap.size:=U.lt;have lE:E<W.heap.size:=(Array.getElem?_eq_some_iff.1 O).1;clear S;go_upto_region 14 with fail;go_quiet (fail);have I:Below w.heap.size w (W.drewN nq):=below_drewN G nq;have j:JrA B (W.drewN nq) jb s pb sl J:=U.below (below_drewN br nq);have p4:(W.drewN nq).cell? ⟨pb,o+4,.none⟩=some (.bool p.gave):=c4;have R:(W.drewN nq).cell? ⟨E,5,.none⟩=some (.int .i64 e.at'):=e5;have b4:=j.h0;clear c0 c1 c2 c3 c4 c5 c6 c7 c8 c9 b7 e0 e5 b3 h0 O G U lj lE;generalize W.drewN nq=V at *;have lj:jb<V.heap.size:=j.lt;have lE:E<V.heap.size:=zqe R;go_upto_region 16 with fail;refine wret 6 ?_;repeat (go_big_quiet_step (fail))
  refine wqn fun X b6=>?_;have H:=b6;have b9:=I.trans (H.mono I.size);have F:=j.below H;clear j I R b4 p4 H;go_upto_region 18 with(first|(go_at_call 114;(with_reducible refine(y.out X F.model).mono ?_);rintro r b ⟨rfl,sl',hm,b2,b0⟩));have b5:=q.out X b sl' b9 F hm b2 b0;obtain⟨⟨ba,D,b8⟩,Y⟩:=b5;have m:RrP b pb J.ps:=D.row;have bm:pb<b.heap.size:=m.lt;have M:RpAt b pb o p:=z.out ▸ (m.pt i hi.out hp.out);have p4:=M.c4;have pf:=M.fr;have C:RrP b pb (J.ps.set i p):=by rw[<-hp.out,List.set_getElem_self];exact m
  have z0:=RrP.put (q':= {p with gave:=true}) hi.out 4 (.bool true) (Only.refl (atR pb) b) C rfl (by omega);rw[<-z.out]at z0;have hL:LeftR B w (b.setCell ⟨pb,o+4,.none⟩ (.bool true)) jb s pb sl {J with l:=zse J.l e.at',ps:=J.ps.set i {p with gave:=true}}:=⟨⟨ba,D.setP (by rw[List.length_set]) z0.2 z0.1,b8⟩,Y.trans z0.1 fun k _ e=>.inr (.inl e)⟩;clear m D hm b2 b0 Y q y F M z0 C;go_wp2;go_ret;exact⟨rfl,hL⟩
theorem rdone_any{B:Nat}{w:World}{jb s pb:Nat}{sl:Value}{J:Jd}(h:JrA B w jb s pb sl J)(e:Ev)(i o:Nat)(p:Pt)(hi:i<J.ps.length)(G:J.ps[i]=p)(F:o=i*10)
  (Z:e.k=5/\zd9 p e=true):
  Calls Tryz.prog 98 #[some jb,.pointer (some ⟨pb,o,.none⟩),e.val] w fun r w'=>r= .returned (.int .i64 0)/\LeftR B w w' jb s pb sl {J with l:=J.l,ps:=J.ps.set i {p with asks:=false}}:=by
 obtain⟨j,M⟩:=Z;replace j:=hd' j;unfold Ev.val Ev.cells;have b:=(Below.refl w.heap.size w).alloc lr (.cells #[e.k,e.c,e.ok,e.oa,e.on,e.at',e.n,e.er] 77);have H:=heap_alloc_new w (.cells #[e.k,e.c,e.ok,e.oa,e.on,e.at',e.n,e.er] 77);have D:=h.below b;obtain⟨b0,c0,c1,c2,c3,c4,c5,c6,c7,c8,c9,Y⟩:=F ▸ (D.row.pt i hi G);replace F:=hd' F;replace G:=hd' G;replace hi:=hd' hi;have b1:=h.lt;have b2:=h.row.lt;have b3:=h.model.lt;have b4:∀ k,sl.ownBlock=some k->k<w.heap.size:=fun k Z=>(h.model.owns.lt k Z).2;have N:Hid (∀ X,RpAt X pb o p->Calls Tryz.prog 115 #[.pointer (some ⟨pb,o,.none⟩),.agg #[.int .i64 5,e.c,e.ok,e.oa,e.on,e.at',e.n,e.er]] X fun r w'=>r= .returned (.bool true)/\Below X.heap.size X w'):=hd' fun X hX=>by have:=ranswers_any p e pb o X hX;unfold Ev.val Ev.cells at this;rwa [M,j.out]at this
 clear M;go_in;go_upto_region 1 with fail;generalize w.alloc (.cells #[e.k,e.c,e.ok,e.oa,e.on,e.at',e.n,e.er] 77)=W at *;obtain⟨E,hE,L⟩:=hidv w.heap.size;rw[<-L]at H ⊢;have e0:W.cell? ⟨E,0,.none⟩=some (.int .i64 e.k):=zac H 0;rw[j.out]at e0;have U:=zac H;have h0:=D.h0;have lj:jb<W.heap.size:=D.lt;have lE:E<W.heap.size:=(Array.getElem?_eq_some_iff.1 H).1;clear L;have V:=zac H;have q:RpAt W pb o p:=F.out ▸ (D.row.pt i hi.out G.out);go_upto_region 5 with(first|(go_at_call 115;(with_reducible refine(N.out _ q).mono ?_);rintro r I ⟨rfl,R⟩));have z:=D.below R;have O:=b.trans (R.mono b.size);have m:RrP I pb J.ps:=z.row;have b5:pb<I.heap.size:=m.lt;have C:RpAt I pb o p:=F.out ▸ (m.pt i hi.out G.out);have p2:=C.c2;have pf:=C.fr;have y:RrP I pb (J.ps.set i p):=by rw[<-G.out,List.set_getElem_self];exact m
 have S:=RrP.put (q':= {p with asks:=false}) hi.out 2 (.bool false) (Only.refl (atR pb) I) y rfl (by omega);rw[<-F.out]at S;have hL:LeftR B w (I.setCell ⟨pb,o+2,.none⟩ (.bool false)) jb s pb sl {J with l:=J.l,ps:=J.ps.set i {p with asks:=false}}:=⟨⟨sl,z.setP (by rw[List.length_set]) S.2 S.1,fun k e=>.inl e⟩,(Only.of_below O).trans S.1 fun k _ e=>.inr (.inl e)⟩;clear m z C S y q c0 c1 c2 c3 c4 c5 c6 c7 c8 c9 Y e0 V U h0 H b D;go_wp2;go_ret;exact⟨rfl,hL⟩
end

end Go.Proofs.YtedcnffebdpmmaaGreat
