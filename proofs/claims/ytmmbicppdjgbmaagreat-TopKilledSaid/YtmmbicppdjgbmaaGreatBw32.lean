/- Lemmas for the claim. -/
import Derived.Laws.CopyRow

import Derived.Lib.Overlaps

import Derived.Deep.Onto

import Derived.Test.YtmmbicppdjgbmaaGreatBw3

set_option linter.all false
set_option maxHeartbeats 4000000
set_option maxRecDepth 100000
namespace Go.Proofs.YtmmbicppdjgbmaaGreat

section

open Go.RowKit

def Bk.cells (b:Bk):List Value:= [.int .i64 b.a,.int .i64 b.n]
def BA (l:List Bk):List Value:=l.flatMap Bk.cells
theorem vG(l k:List Bk):BA (l++k)=BA l++BA k:=by simp[BA]
theorem YJ(l:List Bk)(i j:Nat)(hi:i<l.length)(n:j<2):(BA l)[i*2+j]?=(l[i].cells)[j]?:=by
 induction l generalizing i with
 |nil=>simp at hi
 |cons b l m=>
  show (b.cells++BA l)[i*2+j]?=_
  have f:b.cells.length=2:=rfl
  cases i with
  |zero=>rw[List.getElem?_append_left (by omega)];simp
  |succ i=>
   rw[List.getElem?_append_right (by omega),f,show (i+1)*2+j-2=i*2+j from by omega]
   simpa using m i (by simpa using hi)
def RdK (w:World) (v:Value) (l:List Bk):Prop:=RdS w 2 v l.length (BA l)
theorem RdK.nth{w:World}{v:Value}{l:List Bk}(r:RdK w v l):∃ ao cap,v= .slice ao l.length cap/\l.length<=cap/\(cap:Int)<=9223372036854775807/\(l≠ []->∃ b off,ao=some ⟨b,off,.none⟩/\b<w.heap.size/\
  ∀ i (hi:i<l.length),w.cell? ⟨b,off+i*2,.none⟩=some (.int .i64 l[i].a)/\w.cell? ⟨b,off+i*2+1,.none⟩=some (.int .i64 l[i].n)):=by
 obtain⟨ao,cap,e,h1,h2,_,h4⟩:=r;refine⟨ao,cap,e,h1,h2,fun m=>?_⟩;obtain⟨b,off,j,f,hc⟩:=h4 (fun h=>m (List.eq_nil_of_length_eq_zero h));refine⟨b,off,j,f,fun i hi=>⟨?_,?_⟩⟩
 ·have:=hc (i*2) (by omega);rw[this,show i*2=i*2+0 from rfl,YJ l i 0 hi (by omega)];rfl
 have:=hc (i*2+1) (by omega);rw[Nat.add_assoc,this,YJ l i 1 hi (by omega)];rfl
structure Mdl (T E:TypeId) (B:Nat) (w:World) (s:Nat) (sl:Value) (W:Int) (l:List Bk):Prop where
 lies:B<=s
 head:w.heap[s]?=some (.cells #[sl,W] T (0,0))
 owns:w.ownsRow B E 2 sl l.length (BA l)
 apart:sl.ownBlock≠some s
 ok:okK W 0 l
 small:W<=4096
section

variable {T E:TypeId} {B:Nat} {w w':World} {s:Nat} {sl:Value} {W:Int} {l:List Bk}

theorem Mdl.lt(h:Mdl T E B w s sl W l):s<w.heap.size:=(jE h.head)
theorem Mdl.pE(h:Mdl T E B w s sl W l):∀ k,sl.ownBlock=some k->B<=k/\k<w.heap.size:=h.owns.lt
theorem Mdl.cell0(h:Mdl T E B w s sl W l):w.cell? ⟨s,0,.none⟩=some sl:=by simpa using cell_of_row w s 0 _ T (0,0) h.head
theorem Mdl.cell1(h:Mdl T E B w s sl W l):w.cell? ⟨s,1,.none⟩=some (.int .i64 W):=by simpa using cell_of_row w s 1 _ T (0,0) h.head
theorem Mdl.free(h:Mdl T E B w s sl W l)(i:Nat):w.frozen? ⟨s,i,.none⟩=false:=DA h.head i
theorem Mdl.rd(h:Mdl T E B w s sl W l):RdK w sl l:=RdS.AC h.owns
theorem Mdl.blocks(h:Mdl T E B w s sl W l)(hb:∀ k,foot s sl k->w'.heap[k]?=w.heap[k]?):Mdl T E B w' s sl W l:=
 ⟨h.lies,by rw[hb s (.inl rfl)];exact h.head,PB h.owns (fun k b=>hb k (.inr b)),h.apart,h.ok,h.small⟩
theorem Mdl.below(h:Mdl T E B w s sl W l)(hb:Below w.heap.size w w'):Mdl T E B w' s sl W l:=
 h.blocks fun k b=>hb.block k (by rcases b with rfl|b;exact h.lt;exact(h.pE k b).2)
theorem Mdl.only{F:Nat->Prop}(h:Mdl T E B w s sl W l)(i:Only F w w')(f:∀ k,foot s sl k->¬ F k):Mdl T E B w' s sl W l:=
 h.blocks fun k b=>i.block k (by rcases b with rfl|b;exact h.lt;exact(h.pE k b).2) (f k b)
theorem Mdl.len(h:Mdl T E B w s sl W l):l.length<=4096:=by have:=h.ok.len;have:=h.small;omega
end

end

section

open Go.RowKit

def takeB (W:Int) (l:List Bk) (at' n:Int):List Bk:=if iB W l at' n then putB l at' n else l
theorem WQ{W at' n:Int}{l:List Bk}(h:okK W 0 l):okK W 0 (takeB W l at' n):=by
 unfold takeB;by_cases hc:iB W l at' n=true
 ·rw[jP hc];simp only[iB,xE,jC,decide_eq_true_eq,Bool.not_eq_true',List.any_eq_false,meets]at hc;exact uQ h hc.1.2.1 hc.1.1 (by omega) (fun b hb=>hc.2 b hb)
 rw[jN hc];exact h
theorem qN(l:List Bk)(at' n:Int):(putB l at' n).length=l.length+1:=by
 have:=WJ at' l;unfold putB;rw[List.length_append,List.length_take,List.length_cons,List.length_drop];omega
def atB (l:List Bk) (at':Int):Option Bk:=if OA at' l then l[posB at' l]? else none
theorem yN{W n a:Int}{l:List Bk}(h:iB W l a n=true):takeB W l a n=putB l a n:=by unfold takeB;rw[jP h]
theorem YQ{W n a:Int}{l:List Bk}(h:iB W l a n=false):takeB W l a n=l:=by unfold takeB;rw[jN (by simp[h])]
theorem bI(l:List Bk):(BA l).length=l.length*2:=by
 induction l with
 |nil=>rfl
 |cons b l f=>show (b.cells++BA l).length=_;rw[List.length_append,f,List.length_cons];show 2+_=_;omega
theorem xN(l:List Bk)(k:Nat):(BA l).take (k*2)=BA (l.take k):=by
 induction k generalizing l with
 |zero=>simp[BA]
 |succ k f=>
  cases l with
  |nil=>simp[BA]
  |cons b l=>
   show (b.cells++BA l).take _=b.cells++BA (l.take k)
   rw[<-f,List.take_append,show b.cells.length=2 from rfl,show (k+1)*2-2=k*2 from by omega,List.take_of_length_le (by show 2<=_;omega)]
theorem SQ(l:List Bk)(k:Nat):(BA l).drop (k*2)=BA (l.drop k):=by
 induction k generalizing l with
 |zero=>simp
 |succ k f=>
  cases l with
  |nil=>simp[BA]
  |cons b l=>
   show (b.cells++BA l).drop _=BA (l.drop k)
   rw[<-f,List.drop_append,show b.cells.length=2 from rfl,show (k+1)*2-2=k*2 from by omega,List.drop_of_length_le (by show 2<=_;omega)]
   rfl
theorem sH(l:List Bk):∀ u ∈ BA l,u.oneCell'=true:=by
 intro u hu;obtain⟨b,_,hb⟩:=List.mem_flatMap.1 hu;simp only[Bk.cells,List.mem_cons,List.not_mem_nil,or_false]at hb;rcases hb with rfl|rfl<;>rfl
def blkV (o:Option Bk):Value:=match o with | some b=> .tuple #[.agg #[b.a,b.n],.bool true] | none=> .tuple #[.agg #[.int .i64 0,.int .i64 0],.bool false]
end

section

open Go.RowKit

attribute [local go_sem ↓] Go.wp_at_zero Go.wp_at_succ

attribute [local go_sem high] FJ gM CL

def capW (n:Int):Int:=if n < 0\/4096 < n then 0 else n
theorem vN(n:Int):0<=capW n/\capW n<=4096:=by unfold capW;split<;>omega
theorem okK.take{W lo:Int}{l:List Bk}(h:okK W lo l)(k:Nat):okK W lo (l.take k):=by
 induction l generalizing lo k with
 |nil=>simpa using h
 |cons b l f=>
  cases k with
  |zero=>exact h.le
  |succ k=>exact⟨h.1,h.2.1,f h.2.2 k⟩
theorem iR:(Tryz.prog.info? 142).map (fun i=>(i.zero,i.size,i.bytes))=some (some (.agg #[.int .i64 0,.int .i64 0]),2,16):=by kernel_rfl
theorem Bk.one(b:Bk):∀ u ∈ b.cells,u.oneCell'=true:=by
 intro u hu;simp only[Bk.cells,List.mem_cons,List.not_mem_nil,or_false]at hu;rcases hu with rfl|rfl<;>rfl
abbrev RM:=Mdl 221 142
theorem yjp(n:Int)(w:World):Calls Tryz.prog 72 #[n] w fun e w'=>e= .returned (.pointer (some ⟨w.heap.size,0,.none⟩))/\Below w.heap.size w w'/\RM w.heap.size w' w.heap.size (.slice none 0 0) (capW n) []:=by
 have key:∀ W:Int,W=capW n->RM w.heap.size (w.alloc (.cells #[.slice none 0 0,W] 221)) w.heap.size (.slice none 0 0) (capW n) []:=fun W e=>by have:=vN n;exact⟨Nat.le_refl _,by rw[<-e];exact jA w _,⟨rfl,.inl ⟨rfl,rfl⟩⟩,by simp[Value.ownBlock],by show (0:Int)<=capW n;omega,by omega⟩
 by_cases h1:n<0
 ·have k:=key 0 (by unfold capW;rw[jP (.inl h1)]);go_in;go_wp2;go_ret;exact⟨rfl,br.alloc lr _,k⟩
 by_cases h2:4096<n
 ·have k:=key 0 (by unfold capW;rw[jP (.inr h2)]);have hd:decide (4096<n)=true:=jT h2;go_in;go_wp2;go_ret;exact⟨rfl,br.alloc lr _,k⟩
 have k:=key n (by unfold capW;rw[jN (by omega)]);have hd:decide (4096<n)=false:=jF h2;go_in;go_wp2;go_ret;exact⟨rfl,br.alloc lr _,k⟩
theorem eK(E:TypeId)(sz:Nat)(B:Nat)(w:World):w.ownsRow B E sz (.slice none 0 0) 0 []:=⟨by simp,.inl ⟨rfl,rfl⟩⟩
theorem VQ{w:World}{ao:Option Addr}{cap n:Nat}{l:List Bk}(r:RdK w (.slice ao n cap) l)(b:n=l.length)(i:Nat)(hi:i<=n):RdS w 2 (cutV ao 0 i cap 2) i (BA (l.take i)):=by
 subst b;have:=RdS.cut r (l:=0) (h:=i) (Nat.zero_le _) hi;rwa [Nat.zero_mul,List.drop_zero,Nat.sub_zero,xN]at this
theorem ZQ{w:World}{ao:Option Addr}{cap n:Nat}{l:List Bk}(r:RdK w (.slice ao n cap) l)(b:n=l.length)(i:Nat)(hi:i<=n):RdS w 2 (cutV ao i n cap 2) (n-i) (BA (l.drop i)):=by
 subst b;have:=RdS.cut r (l:=i) (h:=l.length) hi lr;rwa [SQ,List.take_of_length_le (by rw[bI,List.length_drop];exact Nat.le_refl _)]at this
theorem Mdl.reset{T E:TypeId}{B s:Nat}{w w':World}{sl v:Value}{W:Int}{l l':List Bk}{N:Nat}(h:Mdl T E B w s sl W l)(hb:Below w.heap.size w w')(m:w'.ownsRow w.heap.size E 2 v N (BA l'))(n:l'.length=N)(i:okK W 0 l'):
  Mdl T E B (w'.setCell ⟨s,0,.none⟩ v) s v W l'/\Only (foot s sl) w (w'.setCell ⟨s,0,.none⟩ v)/\∀ k,foot s v k->foot s sl k\/w.heap.size<=k:=by
 subst n;have f:=h.lt;have o:w'.heap[s]?=some (.cells #[sl,W] T (0,0)):=(hb.block s f).trans h.head;have j:∀ k,v.ownBlock=some k->w.heap.size<=k:=fun k b=>(m.lt k b).1;refine⟨⟨h.lies,by rw[heap_setCell_same w' s 0 _ _ _ o];rfl,?_,fun e=>by have:=j s e;omega,i,h.small⟩,(Only.of_below hb).setCell (.inl (.inl rfl)) _,fun k b=>?_⟩
 ·refine World.ownsRow.mono (base:=w.heap.size) (PB m fun k b=>heap_setCell_other w' ⟨s,0,.none⟩ k _ (fun e=>?_)) (by have:=h.lies;omega);have:=j k b;simp at e;omega
 rcases b with rfl|b
 ·exact .inl (.inl rfl)
 exact .inr (j k b)
theorem yie{w w':World}(h:w.grownBy w' (Value.slice none 0 0).ownBlock):Below w.heap.size w w':=⟨h.os,h.tape,h.output,h.size,fun k b=>h.block k b (fun e=>nomatch e)⟩
theorem yig{l:List Bk}{at' n:Int}{k:Nat}(b:posB at' l=k):BA (putB l at' n)=(BA (l.take k)++Bk.cells ⟨at',n⟩)++BA (l.drop k):=by
 unfold putB;rw[b,vG];show _++BA ([⟨at',n⟩]++l.drop k)=_;rw[vG,List.append_assoc];rfl
theorem yja{l:List Bk}{f:Bk->Bool}(i:Nat)(hi:i<l.length)(h:f l[i]=true):l.any f=true:=List.any_eq_true.2 ⟨_,List.getElem_mem hi,h⟩
theorem yi1{l:List Bk}{f:Bk->Bool}(h:∀ i (hi:i<l.length),f l[i]=false):l.any f=false:=by
 rw[List.any_eq_false];intro b hb;obtain⟨i,hi,rfl⟩:=List.getElem_of_mem hb;rw[h i hi];simp
theorem yje{B s:Nat}{w:World}{sl:Value}{W:Int}{l:List Bk}(h:RM B w s sl W l)(at' n:Int)(cu: -9223372036854775808<=at')(cv:at'<=9223372036854775807)(e7: -9223372036854775808<=n)(e8:n<=9223372036854775807):
  Calls Tryz.prog 136 #[some s,at',n] w fun e w'=>e= .returned (.bool (iB W l at' n))/\∃ c9,RM B w' s c9 W (takeB W l at' n)/\Only (foot s sl) w w'/\∀ k,foot s c9 k->foot s sl k\/w.heap.size<=k:=by
 have c1:=h.cell1;have cq:0<=W:=h.ok.le;have cr:=h.small;by_cases hf:xE W at' n=true;case neg=>
  have c6:iB W l at' n=false:=by unfold iB;rw[Bool.eq_false_iff.2 hf];rfl
  have cf:takeB W l at' n=l:=by unfold takeB;rw[jN (by rw[c6];simp)]
  rw[c6,cf];have bh:n<1\/(1<=n/\(at'<0\/(0<=at'/\(W<at'\/(at'<=W/\W-at'<n))))):=by simp only[xE,decide_eq_true_eq]at hf;omega
  clear hf;rcases bh with e1|⟨e1,e2|⟨e2,e3|⟨e3,e4⟩⟩⟩;all_goals go_in;go_wp2;go_ret;exact⟨rfl,_,h,Only.refl _ _,fun k hk=>.inl hk⟩
 case pos=>
  have b7:=hf;simp only[xE,decide_eq_true_eq]at b7;obtain⟨f1,f2,f3,f4⟩:=b7;have y:iB W l at' n= !l.any (fun b=>meets b at' n):=by unfold iB;rw[hf];rfl
  have c0:=h.cell0;have c4:=h.lt;have b8:=h.ok.mem;have bp:=h.ok.lt;have c7:=WQ (at':=at') (n:=n) h.ok;have J:iB W l at' n=true->takeB W l at' n=putB l at' n:=yN;have q:iB W l at' n=false->takeB W l at' n=l:=YQ;generalize takeB W l at' n=lt at *;generalize iB W l at' n=ok at *;obtain⟨ao,cap,rfl,bv,cx,b1⟩:=h.rd.nth;have bx:=h.len;obtain⟨m,hm,c5⟩:=hidv l.length;have bm:=h.rd;rw[<-c5]at c0 bv bx bm h ⊢;clear c5 hf;obtain⟨i0,bj,bq,bs,bu⟩:=info_parts iR;have ch:IntKind.i64.wrap (at'+n)=at'+n:=by rw[IntKind.wrap_i64];omega
  have cp:IntKind.i64.wrap (W-at')=W-at':=by rw[IntKind.wrap_i64];omega
  replace y:=hd' y;go_in;go_wp2;go_loopw [7,8,9] (fun vk vi _ wr=>∃ i k:Nat,i<=m/\k<=i/\vi= .int .i64 i/\vk= .int .i64 k/\Hid (∀ j (F:j<l.length),j<i->meets l[j] at' n=false)/\Hid (∀ j (F:j<l.length),j<k->l[j].a<at')/\Hid (∀ j (F:j<l.length),k<=j->j<i->at'<=l[j].a)/\Below w.heap.size w wr) (fun _ vi _ _=>m-(intOf vi).toNat);case atStart=>exact⟨0,0,Nat.zero_le _,Nat.le_refl _,rfl,rfl,hd' (fun j F h=>absurd h (Nat.not_lt_zero _)),hd' (fun j F h=>absurd h (Nat.not_lt_zero _)),hd' (fun j F _ h=>absurd h (Nat.not_lt_zero _)),Below.refl _ _⟩
  case round=>
   obtain⟨i,k,hi,bw,rfl,rfl,bk,V,U,p⟩:=hrel;have d0:=kA p _ _ _ c0;have d1:=kA p _ _ _ c1;have D:=p.size;have d2:=fun o=>kA (p.alloc D o) _ _ _ c0;have d3:=fun o=>kA ((p.drew).alloc D o) _ _ _ c0;by_cases bz:i<m
   ·have R:i<l.length:=hm.out ▸ bz;obtain⟨b,off,rfl,hb,hc⟩:=b1 (fun e=>by rw[e]at R;simp at R);obtain⟨x0,x1⟩:=hc i R;replace x0:=kA p _ _ _ x0;replace x1:=kA p _ _ _ x1;obtain⟨g1,g2,g3⟩:=b8 _ (List.getElem_mem R);have cy:(i:Int)<(m:Int):=by omega
    have cm:(0:Int)<=(i:Int):=by omega
    have ca:IntKind.i64.wrap (l[i].a+l[i].n)=l[i].a+l[i].n:=by rw[IntKind.wrap_i64];omega
    have b5:meets l[i] at' n=true->l.any (fun b=>meets b at' n)=true:=yja (f:=fun b=>meets b at' n) i R;have I:meets l[i] at' n=false->∀ j (F:j<l.length),j<i+1->meets l[j] at' n=false:=fun hx j F h=>by
     rcases Nat.lt_or_ge j i with h1|h1
     ·exact bk j F h1
     have:j=i:=by omega
     subst this;exact hx
    have C:l[i].a<at'->∀ j (F:j<l.length),j<i+1->l[j].a<at':=fun hx j F h=>by
     rcases Nat.lt_or_ge j i with h1|h1
     ·have:=bp j i h1 R;have:=(b8 _ (List.getElem_mem F)).2.1;omega
     have:j=i:=by omega
     subst this;exact hx
    have z:at'<=l[i].a->∀ j (F:j<l.length),k<=j->j<i+1->at'<=l[j].a:=fun hx j F h h'=>by
     rcases Nat.lt_or_ge j i with h1|h1
     ·exact U j F h h1
     have:j=i:=by omega
     subst this;exact hx
    have S:meets l[i] at' n=decide (l[i].a<at'+n/\at'<l[i].a+l[i].n):=rfl;clear hc b1;generalize meets l[i] at' n=mt at *;generalize l[i].a=ba at *;generalize l[i].n=bn at *;by_cases h1:ba<at'+n
    ·by_cases h2:at'<ba+bn
     ·have e1:mt=true:=by rw[S];exact jT ⟨h1,h2⟩
      have G:=b5 e1;have b9:ok=false:=by rw[y,G];rfl
      have Y:=q b9;subst b9;subst Y;clear b5 I C z S J q e1 G y;go_wp2;go_ret;exact⟨rfl,_,h.below (p.alloc D _),Only.of_below (p.alloc D _),fun k hk=>.inl hk⟩
     have e1:mt=false:=by rw[S];exact jF (fun h=>h2 h.2)
     have Z:=hd' (I e1);by_cases h3:ba<at'
     ·have bg:=hd' (C h3);clear b5 I C z S J q;go_wp2;exact⟨⟨i+1,i+1,by omega,by omega,by go_num,by go_num,Z,bg,hd' (fun j F h h'=>by omega),p.alloc D _⟩,by simp[intOf];omega⟩
     omega
    have e1:mt=false:=by rw[S];exact jF (fun h=>h1 h.1)
    have Z:=hd' (I e1);have h3:¬ ba<at':=by omega
    have bf:=hd' (z (by omega));clear b5 I C z S J q;go_wp2;exact⟨⟨i+1,k,by omega,by omega,by go_num,rfl,Z,V,bf,p.alloc D _⟩,by simp[intOf];omega⟩
   have cb:i=m:=by omega
   subst cb;have cz:¬ ((i:Int)<(i:Int)):=by omega
   have bc:posB at' l=k:=RJ at' l k (by have:=hm.out;omega) (fun j F cc=>V j cc F) (fun hk=>U k hk lr (by have:=hm.out;omega));have G:=yi1 (l:=l) (f:=fun b=>meets b at' n) (fun j F=>bk j F (by have:=hm.out;omega));have bb:ok=true:=by rw[y,G];rfl
   have Y:=J bb;subst bb;have b2:=yig (n:=n) bc;rw[<-Y]at b2;have bi:lt.length=k+1+(i-k):=by rw[Y,qN,<- hm];omega
   replace b2:=hd' b2;replace bi:=hd' bi;have c8:=(VQ bm hm k bw).below p;have cd:=ZQ bm hm k bw;have e0:(0:Int)<=(k:Int):=by omega
   have e5:(k:Int)<=(cap:Int):=by omega
   have e6:(k:Int)<=(i:Int):=by omega
   clear bk V U bz Y G bc J q y b1;go_wp2
   go_region_law
    (first|(refine cG (by rfl) (.const (.slice none 0 0)) (.tmp 77) 219 (by rfl) w.heap.size 142 i0 _ 2 16 Tryz.underlying219 bj bq bs bu rfl (by omega) _ 0 [] (by rfl) (eK _ _ _ _) _ k (BA (l.take k)) (by rfl) (by first|exact c8.drew|exact c8.drew.alloc _) (sH _) (by simp only[maxLen];omega) (by omega) (by first|exact D|(simp;omega)) ?_;intro v1 w1 r O cj;have H:=bE (by first|exact p.drew|exact(p.drew).alloc (by simpa using D) _) (eK 142 2 w.heap.size _) (by first|exact D|(simp;omega)) O;have N:=H.size;simp only[Nat.zero_add,List.nil_append]at r;have q1:=kA H _ _ _ c0;have q5:=(fun o=>kA (H.alloc N o) _ _ _ c0);have cg:=yie O)|(refine cG (by rfl) (.tmp 78) (.tmp 82) 219 (by rfl) w.heap.size 142 i0 _ 2 16 Tryz.underlying219 bj bq bs bu rfl (by omega) _ k (BA (l.take k)) (by rfl) (by first|exact r|exact r.alloc _) _ 1 (Bk.cells ⟨at',n⟩) (by rfl) (by first|exact RdS.new (cs:=(Bk.cells ⟨at',n⟩).toArray) (t:=142) (sz:=2) (n:=1) (jA w1 _) rfl (by omega)|exact(RdS.new (cs:=(Bk.cells ⟨at',n⟩).toArray) (t:=142) (sz:=2) (n:=1) (jA wr.drew _) rfl (by omega)).below cg) (Bk.one _) (by simp only[maxLen];omega) (by omega) (by first|exact N|(simp;omega)) ?_;intro v2 w2 b0 b3 ck;have M:=bE (by first|exact H|exact H.alloc N _) (by first|exact r|exact r.alloc _) (by first|exact N|(simp;omega)) b3;have b6:=M.size;have q2:=kA M _ _ _ c0)|(refine cG (by rfl) (.tmp 83) (.tmp 89) 219 (by rfl) w.heap.size 142 i0 _ 2 16 Tryz.underlying219 bj bq bs bu rfl (by omega) _ (k+1) (BA (l.take k)++Bk.cells ⟨at',n⟩) (by rfl) b0 _ (i-k) (BA (l.drop k)) (by rfl) (cd.below M) (sH _) (by simp only[maxLen];omega) (by omega) b6 ?_;intro v3 w3 L b4 cl;have X:=bE M b0 b6 b4;obtain⟨so,sc,rfl,_,_,_⟩:=RdS.AC L;have q3:=kA X _ _ _ c0;have q4:w3.frozen? ⟨s,0,.none⟩=false:=DA ((X.block s c4).trans h.head) 0))
   all_goals rw[<-b2]at L;obtain⟨m1,m2,m3⟩:=Mdl.reset h X L bi c7;go_wp2;go_ret;exact⟨rfl,_,m1,m2,m3⟩
end

section

open Go.RowKit

attribute [local go_sem ↓] Go.wp_at_zero Go.wp_at_succ

attribute [local go_sem high] FJ gM CL

theorem yqx{W lo:Int}{l:List Bk}(h:okK W lo l)(i:Nat)(hi:i<l.length):atB l l[i].a=some l[i]:=by
 have f:=RJ l[i].a l i (by omega) (fun k m b=>by have:=h.lt k i m hi;have:=(h.mem _ (List.getElem_mem b)).2.1;omega) (fun _=>Int.le_refl _);have j:OA l[i].a l=true:=(uG _ _).2 ⟨by omega,by simp only[f]⟩;unfold atB;rw[jP j,f,List.getElem?_eq_getElem hi]
theorem ype{W lo a:Int}{l:List Bk}(h:okK W lo l)(j:∀ i (hi:i<l.length),l[i].a≠a):atB l a=none:=by
 unfold atB;rw[jN];intro f;obtain⟨b,hb,e⟩:=(NM h).1 f;obtain⟨i,hi,rfl⟩:=List.getElem_of_mem hb;exact j i hi e
theorem yqz{B s:Nat}{w:World}{sl:Value}{W:Int}{l:List Bk}(h:RM B w s sl W l)(at':Int):
  Calls Tryz.prog 74 #[some s,at'] w fun e w'=>e= .returned (blkV (atB l at'))/\Below w.heap.size w w':=by
 have c0:=h.cell0;have O:=h.lt;obtain⟨ao,cap,rfl,C,U,r⟩:=h.rd.nth;have hs:=h.small;have D:=h.len;obtain⟨n,R,G⟩:=hidv l.length;rw[<-G]at c0 C D;clear G;go_in;go_wp2;go_loopw [6] (fun M wr=>∃ i:Nat,i<=n/\M= .int .i64 i/\(∀ j (z:j<l.length),j<i->l[j].a≠at')/\wr=w.alloc (.cells #[.int .i64 0,.int .i64 0] 142)) (fun M _=>n-(intOf M).toNat);case atStart=>exact⟨0,Nat.zero_le _,rfl,(fun j z h=>absurd h (Nat.not_lt_zero _)),by first|rfl|trivial⟩
 case round=>
  obtain⟨i,hi,rfl,p,rfl⟩:=hrel;have J:Below w.heap.size w (w.alloc (.cells #[.int .i64 0,.int .i64 0] 142)):=br.alloc lr _;by_cases F:i<n
  ·have y:i<l.length:=R.out ▸ F;obtain⟨b,off,rfl,hb,hc⟩:=r (fun e=>by rw[e]at y;simp at y);obtain⟨x0,x1⟩:=hc i y;have o:=yqx h.ok i y;have Y:(i:Int)<(n:Int):=by omega
   have X:(0:Int)<=(i:Int):=by omega
   by_cases H:l[i].a=at'
   ·have m:blkV (atB l at')= .tuple #[.agg #[.int .i64 l[i].a,.int .i64 l[i].n],.bool true]:=by rw[<-H,o];rfl
    replace m:=hd' m;have b0:b≠w.heap.size:=by omega
    have S:s≠w.heap.size:=by omega
    clear o p hc r;generalize l[i].a=I at *;generalize l[i].n=N at *;subst H;go_wp2;exact bodyPost_ret (v:= .tuple #[.agg #[I,N],.bool true]) (by simp[results,Tryz.results74,go_sem]) rfl ⟨by rw[m],br.alloc lr _⟩
   have q:∀ j (z:j<l.length),j<i+1->l[j].a≠at':=fun j z h=>by
    rcases Nat.lt_or_ge j i with h1|h1
    ·exact p j z h1
    have:j=i:=by omega
    subst this;exact H
   replace q:=hd' q;clear o p hc r;generalize l[i].a=I at *;generalize l[i].n=N at *;have V:(I==at')=false:=by rw[beq_eq_false_iff_ne];exact H
   go_wp2;exact⟨⟨i+1,by omega,by go_num,q.out,by first|rfl|trivial⟩,by simp[intOf];omega⟩
  have L:i=n:=by omega
  subst L;have Z:¬ ((i:Int)<(i:Int)):=by omega
  have m:blkV (atB l at')= .tuple #[.agg #[.int .i64 0,.int .i64 0],.bool false]:=by rw[ype h.ok (fun j z=>p j z (by have:=R.out;omega))];rfl
  replace m:=hd' m;clear F p;go_wp2;exact bodyPost_ret (v:= .tuple #[.agg #[.int .i64 0,.int .i64 0],.bool false]) (by simp[results,Tryz.results74,go_sem]) rfl ⟨by rw[m],J⟩
theorem ymw{W lo:Int}{l:List Bk}(h:okK W lo l)(i:Nat)(hi:i<l.length):OA l[i].a l=true/\posB l[i].a l=i:=by
 have f:=RJ l[i].a l i (by omega) (fun k j b=>by have:=h.lt k i j hi;have:=(h.mem _ (List.getElem_mem b)).2.1;omega) (fun _=>Int.le_refl _);exact⟨(uG _ _).2 ⟨by omega,by simp only[f]⟩,f⟩
theorem yma{W lo a:Int}{l:List Bk}(h:okK W lo l)(j:∀ i (hi:i<l.length),l[i].a≠a):OA a l=false:=by
 rw[Bool.eq_false_iff];intro f;obtain⟨b,hb,e⟩:=(NM h).1 f;obtain⟨i,hi,rfl⟩:=List.getElem_of_mem hb;exact j i hi e
theorem yoh{B s:Nat}{w:World}{sl:Value}{W:Int}{l:List Bk}(h:RM B w s sl W l)(at':Int):
  Calls Tryz.prog 137 #[some s,at'] w fun e w'=>e= .returned (.bool (OA at' l))/\∃ b5,RM B w' s b5 W (UA l at')/\Only (foot s sl) w w'/\∀ k,foot s b5 k->foot s sl k\/w.heap.size<=k:=by
 have c0:=h.cell0;have Z:=h.lt;have bp:=h.free;have b1:=yO (at':=at') h.ok;obtain⟨ao,cap,rfl,U,bk,F⟩:=h.rd.nth;have hs:=h.small;have X:=h.len;obtain⟨n,S,b0⟩:=hidv l.length;have N:=h.rd;rw[<-b0]at c0 U X N h ⊢;clear b0;obtain⟨i0,V,b2,b3,b4⟩:=info_parts iR;go_in;go_wp2;go_loopw [5] (fun vi wr=>∃ i:Nat,i<=n/\vi= .int .i64 i/\(∀ j (R:j<l.length),j<i->l[j].a≠at')/\wr=w) (fun vi _=>n-(intOf vi).toNat);case atStart=>exact⟨0,Nat.zero_le _,rfl,(fun j R h=>absurd h (Nat.not_lt_zero _)),by first|rfl|trivial⟩
 case round=>
  obtain⟨i,hi,rfl,C,bb⟩:=hrel;obtain rfl:=bb.symm;by_cases Y:i<n
  ·have I:i<l.length:=S.out ▸ Y;obtain⟨b,off,rfl,hb,hc⟩:=F (fun e=>by rw[e]at I;simp at I);obtain⟨x0,x1⟩:=hc i I;have bs:(i:Int)<(n:Int):=by omega
   have bh:(0:Int)<=(i:Int):=by omega
   have bi:(i:Int)+1<=(n:Int):=by omega
   have bj:(0:Int)<=(i:Int)+1:=by omega
   by_cases O:l[i].a=at'
   ·obtain⟨m,y⟩:=ymw h.ok i I;rw[O]at m y;have o:UA l at'=l.take i++l.drop (i+1):=by unfold UA YH;rw[jP m,y]
    have M:(UA l at').length=i+(n-(i+1)):=by rw[o,List.length_append,List.length_take,List.length_drop,<- S];omega
    have L:BA (UA l at')=BA (l.take i)++BA (l.drop (i+1)):=by rw[o,vG]
    replace o:=hd' o;replace M:=hd' M;replace L:=hd' L;replace y:=hd' y;have b8:=VQ N S i (by omega);have b9:=ZQ N S (i+1) (by omega);have bc:IntKind.i64.wrap ((i:Int)+1)=(i:Int)+1:=by rw[IntKind.wrap_i64];omega
    have bv:((i:Int)+1).toNat=i+1:=by omega
    have bq:(i:Int)<=(cap:Int):=by omega
    clear C hc F;replace O:=O;generalize l[i].a=ba at *;generalize l[i].n=bn at *;subst O;replace m:=hd' m;go_wp2
    go_region_law
     (first|(refine cG (by rfl) (.const (.slice none 0 0)) (.tmp 31) 219 (by rfl) w.heap.size 142 i0 _ 2 16 Tryz.underlying219 V b2 b3 b4 rfl (by omega) _ 0 [] (by rfl) (eK _ _ _ _) _ i (BA (l.take i)) (by rfl) b8.drew (sH _) (by simp only[maxLen];omega) (by omega) lr ?_;intro v1 w1 p G bf;have r:=bE ((Below.refl w.heap.size w).drew) (eK 142 2 w.heap.size w.drew) lr G;have J:=r.size;simp only[Nat.zero_add,List.nil_append]at p;have q1:=kA r _ _ _ c0)|(refine cG (by rfl) (.tmp 32) (.tmp 39) 219 (by rfl) w.heap.size 142 i0 _ 2 16 Tryz.underlying219 V b2 b3 b4 rfl (by omega) _ i (BA (l.take i)) (by rfl) p _ (n-(i+1)) (BA (l.drop (i+1))) (by rfl) (b9.below r) (sH _) (by simp only[maxLen];omega) (by omega) J ?_;intro v2 w2 q H bg;have z:=bE r p J H;obtain⟨so,sc,rfl,_,_,_⟩:=RdS.AC q;have q2:=kA z _ _ _ c0;have q3:w2.frozen? ⟨s,0,.none⟩=false:=DA ((z.block s Z).trans h.head) 0))
    all_goals rw[<-L]at q;obtain⟨m1,m2,m3⟩:=Mdl.reset h z q M b1;go_wp2;go_ret;exact⟨by rw[m];rfl,_,m1,m2,m3⟩
   have D:∀ j (R:j<l.length),j<i+1->l[j].a≠at':=fun j R h=>by
    rcases Nat.lt_or_ge j i with h1|h1
    ·exact C j R h1
    have:j=i:=by omega
    subst this;exact O
   replace D:=hd' D;clear C hc F;generalize l[i].a=ba at *;generalize l[i].n=bn at *;have bm:(ba==at')=false:=by rw[beq_eq_false_iff_ne];exact O
   go_wp2;exact⟨⟨i+1,by omega,by go_num,D.out,by first|rfl|trivial⟩,by simp[intOf];omega⟩
  have b6:i=n:=by omega
  subst b6;have bu:¬ ((i:Int)<(i:Int)):=by omega
  have m:OA at' l=false:=yma h.ok (fun j R=>C j R (by have:=S.out;omega));have o:UA l at'=l:=by unfold UA;rw[jN (by rw[m];simp)]
  have b7:RM B w s (.slice ao i cap) W (UA l at'):=by rw[o];exact S.out ▸ h
  replace m:=hd' m;clear Y C o;go_wp2;go_ret;exact⟨by rw[m];rfl,_,b7,Only.refl _ _,fun k hk=>.inl hk⟩
end

end Go.Proofs.YtmmbicppdjgbmaaGreat
