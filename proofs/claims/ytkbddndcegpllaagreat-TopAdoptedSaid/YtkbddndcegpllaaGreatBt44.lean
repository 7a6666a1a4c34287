/- Texts bound together: AdoP AdrP AdlP AdtW. -/
import Derived.Test.YtkbddndcegpllaaGreatBt41

import Derived.Test.YtkbddndcegpllaaGreatBt43

set_option linter.all false
set_option maxHeartbeats 8000000
set_option maxRecDepth 100000
namespace Go.Proofs.YtkbddndcegpllaaGreat

section

theorem turn_keeps(s:Sh)(t:Ad)(a b:Int):(t.turn s a b).done=t.done/\(t.turn s a b).c=t.c/\(t.turn s a b).d=t.d/\(3<=a->3<=b->3<=(t.turn s a b).next):=by
 unfold Ad.turn;dsimp only;by_cases h:t.at'+1=s.p
 ·rw[if_pos h];dsimp only;split
  ·exact⟨rfl,rfl,rfl,fun _ _=>(by show (3:Int)<=10;decide)⟩
  exact⟨rfl,rfl,rfl,fun _ h=>h⟩
 rw[if_neg h];dsimp only;split
 ·exact⟨rfl,rfl,rfl,fun _ _=>(by show (3:Int)<=10;decide)⟩
 exact⟨rfl,rfl,rfl,fun h _=>h⟩
theorem slot_keeps(s:Sh)(t:Ad):(t.slot s).done=t.done/\(t.slot s).c=t.c/\(t.slot s).d=t.d/\3<=(t.slot s).next:=by
 unfold Ad.slot;split
 ·obtain⟨b,f,j,l⟩:=turn_keeps s ({t with i:=0,next:=11}:Ad) 10 13;exact⟨b,f,j,l (by decide) (by decide)⟩
 exact⟨rfl,rfl,rfl,(by show (3:Int)<=11;decide)⟩
structure AdMid (t:Ad) (σ:Ab) (r:Ad × Ab):Prop where
 dn:r.1.done=false
 nx:3<=r.1.next
 c:r.1.c=t.c
 d:r.1.d=t.d
 st:r.2.st=σ.st
 mg:∀ y i,y≠t.d->r.2.mg y i=σ.mg y i
theorem AdMid.of{t t' u:Ad}{σ σ':Ab}(hd:t.done=false)(h:u.done=t'.done/\u.c=t'.c/\u.d=t'.d/\3<=u.next)(e:t'.done=t.done/\t'.c=t.c/\t'.d=t.d)(b:σ'.st=σ.st)(f:∀ y i,y≠t.d->σ'.mg y i=σ.mg y i):AdMid t σ (u,σ'):=
 ⟨h.1.trans (e.1.trans hd),h.2.2.2,h.2.1.trans e.2.1,h.2.2.1.trans e.2.2,b,f⟩
theorem ad_after{s:Sh}{t:Ad}{σ:Ab}(hd:t.done=false)(O:3<=t.next):AdMid t σ (adA s t σ)\/adA s t σ=(t.fin 0,σ.stat t.d .done):=by
 have tk:∀ (t':Ad) a b,3<=a->3<=b->(t'.turn s a b).done=t'.done/\(t'.turn s a b).c=t'.c/\(t'.turn s a b).d=t'.d/\3<=(t'.turn s a b).next:=fun t' a b H I=>by obtain⟨k1,L,M,N⟩:=turn_keeps s t' a b;exact⟨k1,L,M,N H I⟩
 have K:∀ {n:Int} (t':Ad),3<=n->t'.done=t.done->t'.c=t.c->t'.d=t.d->t'.next=n->t'.done=t.done/\t'.c=t.c/\t'.d=t.d/\3<=t'.next:=fun t' h E F G q=>⟨E,F,G,by omega⟩;by_cases e:t.next=3
 ·rw[ydj hd e];left;cases σ.pg t.at' with
  |body h=>exact .of hd (K (n:=4) _ (by decide) rfl rfl rfl rfl) ⟨rfl,rfl,rfl⟩ rfl (fun _ _ _=>rfl)
  |empty=>exact .of hd (tk _ 3 6 (by decide) (by decide)) ⟨rfl,rfl,rfl⟩ rfl (fun _ _ _=>rfl)
  |held o=>exact .of hd (tk _ 3 6 (by decide) (by decide)) ⟨rfl,rfl,rfl⟩ rfl (fun _ _ _=>rfl)
  |super k b=>exact .of hd (tk _ 3 6 (by decide) (by decide)) ⟨rfl,rfl,rfl⟩ rfl (fun _ _ _=>rfl)
  |large n=>exact .of hd (tk _ 3 6 (by decide) (by decide)) ⟨rfl,rfl,rfl⟩ rfl (fun _ _ _=>rfl)
 by_cases q:t.next=4
 ·rw[yd0 hd q];left;by_cases h:σ.pg t.pa= .held t.d
  ·rw[if_pos h];exact .of hd (K (n:=5) _ (by decide) rfl rfl rfl rfl) ⟨rfl,rfl,rfl⟩ rfl (fun _ _ _=>rfl)
  rw[if_neg h];exact .of hd (tk _ 3 6 (by decide) (by decide)) ⟨rfl,rfl,rfl⟩ rfl (fun _ _ _=>rfl)
 by_cases B:t.next=5
 ·rw[ydy hd B];exact .inl (.of hd (tk _ 3 6 (by decide) (by decide)) ⟨rfl,rfl,rfl⟩ rfl (fun _ _ _=>rfl))
 by_cases C:t.next=6
 ·rw[ydn hd C];left;by_cases h:σ.pg t.at'= .held t.d
  ·rw[if_pos h];exact .of hd (K (n:=7) _ (by decide) rfl rfl rfl rfl) ⟨rfl,rfl,rfl⟩ rfl (fun _ _ _=>rfl)
  rw[if_neg h];exact .of hd (tk _ 6 9 (by decide) (by decide)) ⟨rfl,rfl,rfl⟩ rfl (fun _ _ _=>rfl)
 by_cases r:t.next=7
 ·rw[yd2 hd r];left;by_cases h:t.i+1=16
  ·rw[if_pos h];exact .of hd (K (n:=8) _ (by decide) rfl rfl rfl rfl) ⟨rfl,rfl,rfl⟩ rfl (fun _ _ _=>rfl)
  rw[if_neg h];exact .of hd (K (n:=7) _ (by decide) rfl rfl rfl r) ⟨rfl,rfl,rfl⟩ rfl (fun _ _ _=>rfl)
 by_cases D:t.next=8
 ·rw[yei hd D];exact .inl (.of hd (tk _ 6 9 (by decide) (by decide)) ⟨rfl,rfl,rfl⟩ rfl (fun _ _ _=>rfl))
 by_cases z:t.next=9
 ·rw[yeh hd z];left;have p:∀ y i,y≠t.d->(σ.mag t.d t.i .none).mg y i=σ.mg y i:=fun y i J=>zv2 _ (fun h=>J h.1) _;by_cases h:t.i+1=s.m
  ·rw[if_pos h];exact .of hd (K (n:=10) _ (by decide) rfl rfl rfl rfl) ⟨rfl,rfl,rfl⟩ rfl p
  rw[if_neg h];exact .of hd (K (n:=9) _ (by decide) rfl rfl rfl z) ⟨rfl,rfl,rfl⟩ rfl p
 by_cases f:t.next=10
 ·rw[z9b hd f];left;cases σ.pg t.at' with
  |super k b=>exact .of hd (K (n:=11) _ (by decide) rfl rfl rfl rfl) ⟨rfl,rfl,rfl⟩ rfl (fun _ _ _=>rfl)
  |empty=>exact .of hd (tk _ 10 13 (by decide) (by decide)) ⟨rfl,rfl,rfl⟩ rfl (fun _ _ _=>rfl)
  |held o=>exact .of hd (tk _ 10 13 (by decide) (by decide)) ⟨rfl,rfl,rfl⟩ rfl (fun _ _ _=>rfl)
  |body h=>exact .of hd (tk _ 10 13 (by decide) (by decide)) ⟨rfl,rfl,rfl⟩ rfl (fun _ _ _=>rfl)
  |large n=>exact .of hd (tk _ 10 13 (by decide) (by decide)) ⟨rfl,rfl,rfl⟩ rfl (fun _ _ _=>rfl)
 by_cases j:t.next=11
 ·rw[z8z hd j];left;by_cases h:σ.sl t.at' t.i= .way t.d
  ·rw[if_pos h];exact .of hd (K (n:=12) _ (by decide) rfl rfl rfl rfl) ⟨rfl,rfl,rfl⟩ rfl (fun _ _ _=>rfl)
  rw[if_neg h];exact .of hd (slot_keeps s t) ⟨rfl,rfl,rfl⟩ rfl (fun _ _ _=>rfl)
 by_cases l:t.next=12
 ·rw[z9f hd l];exact .inl (.of hd (slot_keeps s t) ⟨rfl,rfl,rfl⟩ rfl (fun _ _ _=>rfl))
 right;unfold adA;rw[if_neg (by rw[hd];decide)];rw[if_neg (by omega)];rw[if_neg (by omega)];rw[if_neg (by omega)];rw[if_neg e];rw[if_neg q];rw[if_neg B];rw[if_neg C];rw[if_neg r];rw[if_neg D];rw[if_neg z];rw[if_neg f];rw[if_neg j];rw[if_neg l]
def TW.gone:TW->Prop
 | .dead=> True
 | .owned _=> True
 | _=> False
def AdPh (c x:Int) (v0:TW) (t:Ad) (σ:Ab):Prop:=t.done=false/\t.c=c/\t.d=x/\
 ((t.next=0/\σ.st x=v0)\/(t.next=1/\σ.st x=v0/\v0= .owned t.who/\t.was=v0.enc)\/(t.next=2/\σ.st x=v0/\v0.gone/\t.was=v0.enc)\/(3<=t.next/\v0.gone/\σ.st x= .owned c))
def AdEnd (x:Int) (v0:TW) (er:Int) (σ:Ab):Prop:=(v0.gone/\er=0/\σ.st x= .done)\/(¬ v0.gone/\er=5/\σ.st x=v0)
structure AdSide (s:Sh) (c x:Int) (st0:Int->TW) (σ σ':Ab):Prop where
 st:∀ y,y≠x->σ'.st y=σ.st y
 mg:∀ i,σ'.mg c i=σ.mg c i
theorem ad_alone{s:Sh}{c x:Int}{st0:Int->TW}{t:Ad}{σ:Ab}(o:x≠c)(q:∀ a,st0 x= .owned a->st0 a≠ .live)(hs:∀ y,y≠x->σ.st y=st0 y)(h:AdPh c x (st0 x) t σ):
  AdSide s c x st0 σ (adA s t σ).2/\(AdPh c x (st0 x) (adA s t σ).1 (adA s t σ).2\/((adA s t σ).1.done=true/\AdEnd x (st0 x) (adA s t σ).1.err (adA s t σ).2)):=by
 obtain⟨hd,hc,z,b⟩:=h;subst z;rcases b with b|b|b|b
 ·rw[ya2 hd b.1];refine⟨⟨fun _ _=>rfl,fun _=>rfl⟩,?_⟩;dsimp only;rw[b.2];cases e:st0 t.d with
  |dead=>exact .inl ⟨hd,hc,rfl,.inr (.inr (.inl ⟨rfl,b.2.trans e,trivial,rfl⟩))⟩
  |owned a=>exact .inl ⟨hd,hc,rfl,.inr (.inl ⟨rfl,b.2.trans e,rfl,rfl⟩)⟩
  |unused=>exact .inr ⟨rfl,.inr ⟨id,rfl,b.2.trans e⟩⟩
  |live=>exact .inr ⟨rfl,.inr ⟨id,rfl,b.2.trans e⟩⟩
  |done=>exact .inr ⟨rfl,.inr ⟨id,rfl,b.2.trans e⟩⟩
 ·obtain⟨l,f,j,m⟩:=b;rw[yc1 hd l];have r:σ.st t.who≠ .live:=by
   by_cases e:t.who=t.d
   ·rw[e,f,j];exact fun e=>by cases e
   rw[hs _ e];exact q _ j
  rw[if_neg r];exact⟨⟨fun _ _=>rfl,fun _=>rfl⟩,.inl ⟨hd,hc,rfl,.inr (.inr (.inl ⟨rfl,f,by rw[j];trivial,m⟩))⟩⟩
 ·obtain⟨l,f,j,m⟩:=b;rw[yee hd l,if_pos (by rw[f];exact m.symm)];refine⟨⟨fun y p=>z6r _ p _,fun _=>rfl⟩,.inl ⟨hd,hc,rfl,.inr (.inr (.inr ⟨Int.le_refl _,j,?_⟩))⟩⟩;show up σ.st t.d (.owned t.c) t.d=_;rw[zp8,hc]
 obtain⟨l,f,j⟩:=b;rcases ad_after (s:=s) (σ:=σ) hd l with h|h
 ·refine⟨⟨fun y _=>by rw[h.st],fun i=>h.mg c i (Ne.symm o)⟩,.inl ⟨h.dn,h.c.trans hc,h.d,.inr (.inr (.inr ⟨h.nx,f,by rw[h.st];exact j⟩))⟩⟩
 rw[h];exact⟨⟨fun y p=>z6r _ p _,fun _=>rfl⟩,.inr ⟨rfl,.inl ⟨f,rfl,zp8 _ _ _⟩⟩⟩
structure AdRun (s:Sh) (c x:Int) (σ0:Ab) (d:Wd):Prop where
 ex:∃ σ,WI s σ d/\(∀ y,y≠x->σ.st y=σ0.st y)/\(∀ i,σ.mg c i=σ0.mg c i)/\∃ k,d.kl c=some k/\((∃ t,k.job=some (.hei t)/\AdPh c x (σ0.st x) t σ)\/(k.job=none/\∃ l e,d.tr=l ++ [e]/\AdEnd x (σ0.st x) e.er σ))
section

variable {s:Sh} {d:Wd} {n:Nat} {c x:Int} {σ0:Ab}

theorem adrun_goS(hd:wdOk s d n)(z:x≠c)(J:∀ a,σ0.st x= .owned a->σ0.st a≠ .live)(h:AdRun s c x σ0 d):AdRun s c x σ0 (d.goS s c):=by
 obtain⟨σ,M,D,G,k,p,H⟩:=h.ex;rcases H with⟨t,o,L⟩|⟨o,O⟩
 ·obtain⟨_,B,j⟩:=hd.kl _ _ p;rw[z5n p (by rw[o];exact fun e=>by cases e),z5q p j];obtain⟨C,_,N⟩:=zt5 M hd p o;have hi:c.toNat<d.l.length:=by rw[hd.len];omega
  obtain⟨a1,f⟩:=ad_alone (s:=s) (st0:=σ0.st) z J D L;have e:k.step s d.m=(k.after ((Jb.hei t).step s k.c d.m).1,((Jb.hei t).step s k.c d.m).2,k.tells ((Jb.hei t).step s k.c d.m).1,0):=by unfold Kl.step;rw[o]
  rw[B,N]at e;have I:(Jb.hei t).zhf s c σ=(.hei (adA s t σ).1,(adA s t σ).2):=rfl;rw[I]at C e;dsimp only at C e;have q:(d.step s c k).1.kl c=some (k.after (.hei (adA s t σ).1)):=by unfold Wd.step;rw[e];dsimp only;rw[d.zdk j.1 hi,if_pos rfl]
  have r:(d.step s c k).1.tr=d.tr++k.tells (.hei (adA s t σ).1):=by unfold Wd.step;rw[e]
  refine⟨⟨_,C,fun y E=>(a1.st y E).trans (D y E),fun i=>(a1.mg i).trans (G i),_,q,?_⟩⟩;rcases f with f|⟨f,F⟩
  ·refine .inl ⟨_,?_,f⟩;unfold Kl.after;dsimp only;have b:(Jb.hei (adA s t σ).1).done=false:=f.1;rw[if_neg (by rw[b];decide)]
  have b:(Jb.hei (adA s t σ).1).done=true:=f;refine .inr ⟨?_,?_⟩
  ·unfold Kl.after;dsimp only;rw[if_pos b]
  rw[r];unfold Kl.tells;rw[if_pos b];exact⟨_,_,(by rw[<-List.append_assoc,<- List.append_assoc]),F⟩
 rw[zw5 p o];exact h
theorem adrun_goN(hd:wdOk s d n)(b:x≠c)(f:∀ a,σ0.st x= .owned a->σ0.st a≠ .live)(h:AdRun s c x σ0 d)(i:Nat):AdRun s c x σ0 (d.goN s c i):=by
 induction i with
 |zero=>exact h
 |succ i j=>exact adrun_goS (zz6 hd i) b f j
theorem adrun_ask(hd:wdOk s d n)(H:Rest d c)(J:0<=x/\x<s.c)(q:x≠c)(I:WI s σ0 d):AdRun s c x σ0 (d.act s ⟨2,c,4,x,0,0⟩).1:=by
 obtain⟨k,r,G⟩:=H;obtain⟨_,f,o⟩:=hd.kl _ _ r;have hi:c.toNat<d.l.length:=by rw[hd.len];omega
 have D:=hd.fi.may;have C:=zwb I hd ⟨2,c,4,x,0,0⟩ (k:=k) r;unfold Wd.act;rw[if_neg (by unfold Ch.bad;dsimp only;omega),if_neg (show ¬ (2:Int)=1 by decide)];dsimp only;rw[r];dsimp only;rw[if_neg (show ¬ (2:Int)=3 by decide),if_pos rfl];have z:k.rests=true:=by unfold Kl.rests;rw[G];rfl
 have i:zae s.p s.c s.m x=x:=by unfold zae;rw[if_pos ⟨D,zbc.2 (by omega)⟩]
 have B:zae s.p s.c s.m c=c:=by unfold zae;rw[if_pos ⟨D,zbc.2 (by omega)⟩]
 have t:ziu s k.c 4 x 0=false:=by
  unfold ziu zdl zk8;rw[i,f];have E:decide (x<0)=false:=decide_eq_false (by omega);have F:(x==c)=false:=by rw[beq_eq_false_iff_ne];exact q
  rw[E,F];rfl
 have y:Ch.op (⟨2,c,4,x,0,0⟩:Ch)=⟨4,x,0⟩:=rfl;have b:k.invoke s ⟨4,x,0⟩=({k with op:=⟨4,x,0⟩,told:=false,steps:=0,job:=some (zgl s k.c k.first 4 x 0)}, [zbh k.c ⟨4,x,0⟩],0):=by unfold Kl.invoke;rw[if_neg (by rw[z];decide),if_neg (show ¬ ((4:Int)<1\/(4:Int)<4) by decide)];rw[if_neg (show ¬ ziu s k.c 4 x 0=true by rw[t];decide)]
 have j:(d.ask s ⟨2,c,4,x,0,0⟩ k).1.kl c=some {k with op:=⟨4,x,0⟩,told:=false,steps:=0,job:=some (zgl s k.c k.first 4 x 0)}:=by unfold Wd.ask;dsimp only;rw[y,b,d.zdk o.1 hi,if_pos rfl]
 refine⟨⟨σ0,C,fun _ _=>rfl,fun _=>rfl,_,j,.inl ⟨zix s c x,?_,?_⟩⟩⟩
 ·dsimp only;rw[f];rfl
 have:zix s c x=⟨c,x,0,0,0,0,0,0,0,0,0,false⟩:=by unfold zix;dsimp only;rw[if_neg (by rw[i,B];intro h;rcases h with h|h|h<;>omega)]
 rw[this];exact⟨rfl,rfl,rfl,.inl ⟨rfl,rfl⟩⟩
theorem idle_owner(j:WI s σ0 d)(h:∀ y k,d.kl y=some k->k.job=none):∀ a,σ0.st x= .owned a->σ0.st a≠ .live:=fun a i e=>by
 obtain⟨k,t,f,b,_⟩:=(j.ow x a i).2 e
 rw[h a k f]at b;cases b
theorem rest_all(m:WI s σ0 d)(l:Rest d c)(j:∀ y,y≠c->σ0.st y≠ .live):∀ y k,d.kl y=some k->k.job=none:=fun y k b=>by
 by_cases e:y=c
 ·obtain⟨o,f,i⟩:=l
  rw[e,f]at b;injection b with b;rw[<-b];exact i
 ·exact absurd (m.li y k b).1 (j y e)
theorem adopt_alone(hd:wdOk s d n)(m:Rest d c)(H:0<=x/\x<s.c)(j:x≠c)(p:WI s σ0 d)(hi:∀ y k,d.kl y=some k->k.job=none):
  ∃ σ,WI s σ (askW s d c ⟨4,x,0⟩)/\(∀ y,y≠x->σ.st y=σ0.st y)/\(∀ i,σ.mg c i=σ0.mg c i)/\AdEnd x (σ0.st x) (ygv (askW s d c ⟨4,x,0⟩)) σ:=by
 have G:=idle_owner (x:=x) p hi;have D:=adrun_goN (zeo hd ⟨2,c,4,x,0,0⟩) j G (adrun_ask hd m H j p) (z5k s);obtain⟨k,F,E⟩:=rest_ask (o:=⟨4,x,0⟩) hd m ⟨show (1:Int)<=4 by decide,Int.le_refl _⟩;obtain⟨σ,q,r,z,I,b,B⟩:=D.ex;have b:(askW s d c ⟨4,x,0⟩).kl c=some I:=b;rw[F]at b;injection b with b;subst b;rcases B with⟨t,f,_⟩|⟨_,l,e,f,C⟩
 ·rw[E]at f;cases f
 have f:(askW s d c ⟨4,x,0⟩).tr=l++[e]:=f;refine⟨σ,q,r,z,?_⟩;have:ygv (askW s d c ⟨4,x,0⟩)=e.er:=by unfold ygv;rw[f];simp
 rw[this];exact C
end

end

section

def killS (s:Sh) (c:Int) (d:Wd) (y:Int):Wd:=if y≠c then (d.act s ⟨4,y,0,0,0,0⟩).1 else d
def killL (s:Sh) (c:Int) (d:Wd) (l:List Int):Wd:=l.foldl (killS s c) d
theorem killL_take{s:Sh}{c:Int}{d:Wd}{l:List Int}{i:Nat}(h:i<l.length):killL s c d (l.take (i+1))=killS s c (killL s c d (l.take i)) l[i]:=by
 unfold killL;rw[List.take_succ_eq_append_getElem h,List.foldl_append];rfl
def adoN (s:Sh) (c:Int) (d:Wd):Nat->Wd
 | 0=> d
 | i + 1=> askW s (adoN s c d i) c ⟨4,i,0⟩
def One (s:Sh) (d:Wd) (c:Int):Prop:=Rest d c/\∃ σ,WI s σ d/\∀ i,σ.mg c i= .none
section

variable {s:Sh} {d:Wd} {n:Nat} {c:Int}

theorem one_start(h:Fresh s d c)(hd:wdOk s d n)(hc:0<=c/\c<s.c):(d.act s ⟨1,c,0,0,0,0⟩).2=0/\One s (d.act s ⟨1,c,0,0,0,0⟩).1 c:=by
 have b:=fresh_stat h hc;refine⟨(fresh_start h hd hc).1,?_⟩;obtain⟨σ,f,hu⟩:=h;have hi:c.toNat<d.l.length:=by rw[hd.len];omega
 have e:(d.act s ⟨1,c,0,0,0,0⟩)=d.begin s ⟨1,c,0,0,0,0⟩:=by unfold Wd.act;rw[if_neg (by unfold Ch.bad;dsimp only;omega),if_pos rfl]
 rw[e];refine⟨?_,_,zqr f hd ⟨1,c,0,0,0,0⟩ hc b,(f.un c (.inl hu)).2⟩;unfold Wd.begin;dsimp only;rw[if_pos b];exact⟨_,by rw[d.zdk hc.1 hi,if_pos rfl],rfl⟩
theorem kill_act(y:Int):(d.act s ⟨4,y,0,0,0,0⟩).1=d/\((0<=y/\y<s.c)->d.kl y=none)\/∃ k,d.kl y=some k/\(d.act s ⟨4,y,0,0,0,0⟩).1=(d.kill y).1:=by
 unfold Wd.act;by_cases hb:(⟨4,y,0,0,0,0⟩:Ch).bad s
 ·rw[if_pos hb];refine .inl ⟨rfl,fun b=>?_⟩;unfold Ch.bad at hb;dsimp only at hb;omega
 rw[if_neg hb,if_neg (show ¬ (4:Int)=1 by decide)];dsimp only;cases hk:d.kl y with
 |none=>exact .inl ⟨rfl,fun _=>rfl⟩;|some k=>refine .inr ⟨k,rfl,?_⟩;dsimp only;rw[if_neg (show ¬ (4:Int)=3 by decide),if_neg (show ¬ (4:Int)=2 by decide)]
theorem kill_kl(hd:wdOk s d n){y:Int}{k:Kl}(b:d.kl y=some k)(z:Int):(d.kill y).1.kl z=if z=y then none else d.kl z:=by
 obtain⟨_,_,hc⟩:=hd.kl _ k b;have hi:y.toNat<d.l.length:=by rw[hd.len];omega
 unfold Wd.kill;exact d.zdk hc.1 hi _ _ _ _ _
theorem one_kill(h:One s d c)(hd:wdOk s d n)(y:Int):One s (killS s c d y) c/\(y≠c->(killS s c d y).kl y=none)/\∀ z,d.kl z=none->(killS s c d y).kl z=none:=by
 unfold killS;by_cases e:y≠c
 ·rw[if_pos e];rcases kill_act (s:=s) (d:=d) y with⟨j,m⟩|⟨k,f,j⟩
  ·rw[j];refine⟨h,fun _=>?_,fun z i=>i⟩;cases f:d.kl y with
   |none=>rfl
   |some k=>rw[m (hd.kl _ k f).2.2]at f;cases f
  rw[j];have b:=kill_kl hd f;obtain⟨⟨r,l,o⟩,σ,q,p⟩:=h;refine⟨⟨⟨r,?_,o⟩,_,zp4 q hd f,p⟩,fun _=>?_,fun z i=>?_⟩
  ·rw[b,if_neg (Ne.symm e)];exact l
  ·rw[b,if_pos rfl]
  rw[b];split
  ·rfl
  exact i
 rw[if_neg e];exact⟨h,fun l=>absurd l e,fun z i=>i⟩
theorem ai_killL(l:List Int)(h:AI s d n):AI s (killL s c d l) (n+l.length):=by
 induction l generalizing d n with
 |nil=>exact h;|cons y l i=>
  have b:AI s (killS s c d y) (n+1):=by
   unfold killS;split
   ·exact ai_act h _
   exact ai_weak h (by omega)
  have f:=i b;rw[List.length_cons,show n+(l.length+1)=n+1+l.length by omega];exact f
theorem one_killL(l:List Int)(h:One s d c)(j:AI s d n):One s (killL s c d l) c/\(∀ y ∈ l,y≠c->(killL s c d l).kl y=none)/\∀ z,d.kl z=none->(killL s c d l).kl z=none:=by
 induction l generalizing d n with
 |nil=>exact⟨h,fun y t=>absurd t (by simp),fun z b=>b⟩;|cons y l B=>
  obtain⟨p,q,r⟩:=one_kill h j.1 y;obtain⟨m,o,i⟩:=B p (ai_killL (c:=c) [y] j);refine⟨m,fun z b f=>?_,fun z b=>i z (r z b)⟩;rcases List.mem_cons.1 b with rfl|b
  ·exact i _ (q f)
  exact o z b f
theorem all_killed(h:One s d c)(b:AI s d n):One s (killL s c d (whoL (fun _=>true) d.l d.l.length)) c/\∀ z,z≠c->(killL s c d (whoL (fun _=>true) d.l d.l.length)).kl z=none:=by
 obtain⟨m,o,p⟩:=one_killL (whoL (fun _=>true) d.l d.l.length) h b;refine⟨m,fun z q=>?_⟩;cases hk:d.kl z with
 |none=>exact p z hk;|some k=>
  obtain⟨_,_,f⟩:=b.1.kl _ _ hk;have r:=b.1.len;have i:d.l.getD z.toNat none=some k:=by unfold Wd.kl at hk;rw[if_pos f.1]at hk;exact hk
  have j:=mem_who (l:=d.l) (c:=z.toNat) (by omega) i;rw[show ((z.toNat:Nat):Int)=z by omega]at j;exact o z j q
structure AdoI (s:Sh) (d:Wd) (n:Nat) (c:Int) (i:Nat):Prop where
 ai:AI s (adoN s c d i) (n + i * (1 + z5k s))
 rs:Rest (adoN s c d i) c
 bl:(jdOf s (adoN s c d i)).l=(jdOf s d).l
 ex:∃ σ,WI s σ (adoN s c d i)/\(∀ y,y≠c->σ.st y≠ .live)/\(∀ j,σ.mg c j= .none)/\∀ y,0<=y/\y < (i:Int)->σ.st y= .unused\/σ.st y= .done
theorem ado_0(h:AI s d n)(o:One s d c)(m:∀ z,z≠c->d.kl z=none):AdoI s d n c 0:=by
 obtain⟨p,σ,f,l⟩:=o;refine⟨ai_weak (show AI s (adoN s c d 0) n from h) (by simp),p,rfl,σ,f,fun y i j=>?_,l,fun y i=>by omega⟩;obtain⟨k,b⟩:=f.nl y j;rw[m y i]at b;cases b
theorem stat_kind{σ:Ab}(f:WI s σ d){x:Int}(i:0<=x/\x<s.c):(zrl s d x=2\/zrl s d x=3)↔(σ.st x).gone:=by
 have m:=f.rep.may;have b:=(ixs f.rep.fi).2.2.2 _ i;have j:=f.rep.st _ i;rw[b]at j;have l:=(TW.read m (f.gi.tf x)).1;unfold zrl;rw[b,if_pos i.1];unfold Wd.stat;rw[j,l];cases σ.st x<;>simp[TW.gone,TW.kind]
theorem ado_step{i:Nat}(h:AdoI s d n c i)(hi:(i:Int)<c)(hc:c<s.c):AdoI s d n c (i+1)/\(((adoN s c d i).act s ⟨2,c,4,i,0,0⟩).2=0)/\
  ((zrl s (adoN s c d i) i=2\/zrl s (adoN s c d i) i=3)↔ygv (adoN s c d (i+1))=0)/\(ygv (adoN s c d (i+1))≠0->ygv (adoN s c d (i+1))=5):=by
 obtain⟨q,r,hb,σ,B,z,L,M⟩:=h;have D:=rest_asks (o:=⟨4,i,0⟩) q.1 r ⟨show (1:Int)<=4 by decide,Int.le_refl _⟩;obtain⟨a1,k,l,e,O,R,S,T,U,E⟩:=ask_fin (o:=⟨4,i,0⟩) q D;obtain⟨σ',F,G,H,t⟩:=adopt_alone q.1 r (x:=i) ⟨by omega,by omega⟩ (by omega) B (rest_all B r z);have J:=stat_kind B (x:=i) ⟨by omega,by omega⟩;have p:∀ y,y≠(i:Int)->σ'.st y=σ.st y:=G;have m:σ'.st i= .unused\/σ'.st i= .done:=by
  rcases t with⟨_,_,g⟩|⟨f,_,I⟩
  ·exact .inr g
  rw[I];have:=z i (by omega);cases e:σ.st i with
  |unused=>exact .inl rfl
  |done=>exact .inr rfl
  |live=>exact absurd e this
  |dead=>rw[e]at f;exact absurd trivial f
  |owned a=>rw[e]at f;exact absurd trivial f
 refine⟨⟨?_,rest_ask (o:=⟨4,i,0⟩) q.1 r ⟨show (1:Int)<=4 by decide,Int.le_refl _⟩,(E.a1 rfl).trans hb,σ',F,fun y C=>?_,fun j=>(H j).trans (L j),fun y N=>?_⟩,D,?_,?_⟩
 ·rw[Nat.add_mul,Nat.one_mul,<- Nat.add_assoc,<- Nat.add_assoc];exact a1
 ·by_cases e:y=(i:Int)
  ·subst e;rcases m with g|g<;>rw[g]<;>decide
  rw[p y e];exact z y C
 ·by_cases e:y=(i:Int)
  ·subst e;exact m
  rw[p y e];exact M y (by omega)
 ·rw[J];rcases t with⟨f,b,_⟩|⟨f,b,_⟩
  ·exact⟨fun _=>b,fun _=>f⟩
  exact⟨fun g=>absurd g f,fun g=>by
   have b:ygv (adoN s c d (i+1))=5:=b
   rw[b]at g;cases g⟩
 intro g;rcases t with⟨_,b,_⟩|⟨_,b,_⟩
 ·exact absurd b g
 exact b
theorem ado_all(h:AdoI s d n c 0)(hc:c<s.c):∀ i:Nat,(i:Int)<=c->AdoI s d n c i:=by
 intro i;induction i with
 |zero=>exact fun _=>h
 |succ i b=>exact fun hi=>(ado_step (b (by omega)) (by omega) hc).1
theorem ado_end{i:Nat}(h:AdoI s d n c i)(hi:(i:Int)=c)(hc:s.c=c+1):∃ σ,Rep s (adoN s c d i).m σ/\GI s σ/\Bare s σ:=by
 obtain⟨_,⟨k,l,j⟩,_,σ,b,_,o,p⟩:=h;refine⟨σ,b.rep,b.gi,fun z q=>?_⟩;by_cases e:z=c
 ·subst e;have f:=(b.li _ _ l).2;unfold KlAt at f;rw[j]at f;exact⟨f,o⟩
 exact b.un z (p z (by omega))
end

end

section

open Go.RowKit

attribute [local go_sem ↓] Go.wp_at_zero Go.wp_at_succ

theorem adopted_any(s:Sh)(xs:List Ch)(v:Value)(W:World)(hr:RdS W 6 v xs.length (xs.flatMap Ch.cells)):
  Calls Tryz.prog 11 #[.agg #[s.p,s.c,s.m],v] W fun e w'=>e= .returned (.bool true)/\Below W.heap.size W w':=by
 obtain⟨ao,cap,rfl,fv,i6,_,_⟩:=id hr;obtain⟨n,hn,g2⟩:=hidv xs.length;rw[<-g2]at fv hr ⊢;clear g2;have cd:=hd' (fun i (hi:i<xs.length)=>chAt hn.out hr hi);clear hr;have gn:=hd' (fun Y=>yhf Y);have T:∀ Y,Calls Tryz.prog 15 #[.slice ao n cap,.int .i64 2000] Y fun e w'=>e= .returned (.bool (decide (n<=2000)))/\w'=Y:=fun Y=>room22 ao n cap 2000 (by omega) Y;have c4:=(Below.refl W.heap.size W).alloc lr (.cells #[s.p,s.c,s.m] 23);have t0:zaa (W.alloc (.cells #[s.p,s.c,s.m] 23)) W.heap.size #[s.p,s.c,s.m] 23:=heap_alloc_new _ _;go_in;go_upto_region 3 with(first|(go_at_call 14;(with_reducible refine(gn.out _).mono ?_);rintro r w1 ⟨rfl,c5⟩));have t1:=t0.below c5;have b1:=zab c4 c5;obtain⟨H,hH,fg⟩:=hidv W.heap.size;rw[<-fg]at t1 b1 ⊢;have bv:W.heap.size<=H:=by omega
 have lH:=t1.lt;clear fg t0 c4 c5;obtain⟨c0,c1,c2⟩:=ci3 s.p s.c s.m t1.cell;by_cases J:¬ n<=2000
 ·rw[decide_eq_false J]at T;replace T:=hd' T;clear cd J;go_wp2_with (first|(go_at_call 15;(with_reducible refine(T.out _).mono ?_);rintro r w2 ⟨rfl,b9⟩;obtain rfl:=b9.symm));go_returns;exact⟨rfl,b1.mono bv⟩
 replace J:=Decidable.not_not.1 J;rw[decide_eq_true J]at T;replace T:=hd' T;by_cases fs:s.c<2
 ·clear cd J;go_wp2_with (first|(go_at_call 15;(with_reducible refine(T.out _).mono ?_);rintro r w2 ⟨rfl,b9⟩;obtain rfl:=b9.symm));go_returns;exact⟨rfl,b1.mono bv⟩
 by_cases hm:¬ mayB s.p s.c s.m=true
 ·have ex:=hd' (fun Y=>yfo s Y hm);clear cd J hm;go_wp2_with (first|(go_at_call 15;(with_reducible refine(T.out _).mono ?_);rintro r w2 ⟨rfl,b9⟩;obtain rfl:=b9.symm)|(go_at_call 16;(with_reducible refine(ex.out _).mono ?_);rintro r w3 ⟨E,rfl⟩));go_returns;exact⟨rfl,(b1.trans (E.mono (Nat.le_of_lt lH))).mono bv⟩
 replace hm:=Decidable.not_not.1 hm;have i5:2<=s.c:=by omega
 have i4:=zar.1 hm;have ex:=hd' (fun Y=>znk s Y hm);obtain⟨c,hc,fq⟩:∃ c,Hid (c=s.c-1)/\c=s.c-1:=⟨_,hd' rfl,rfl⟩;have f0:0<=c/\c<s.c:=by omega
 have hf:IntKind.i64.wrap (s.c-1)=c:=by rw[fq];exact IntWalk.i64_in _ ⟨by omega,by omega⟩
 clear fq;have i1:=mostV_le hm;have bx:=ai_new hm;have fl:=hd' (fun i=>ai_weak (ai_actsF (c:=c) bx (xs.take i)) (show 0+(xs.take i).length<=2000 by rw[List.length_take,<- hn.out];omega));go_upto_region 8 with(first|(go_at_call 15;(with_reducible refine(T.out _).mono ?_);rintro r w2 ⟨rfl,b9⟩;obtain rfl:=b9.symm)|(go_at_call 16;(with_reducible refine(ex.out _).mono ?_);rintro r w3 ⟨E,g,vv,x0,rfl,g8⟩));have t3:=t1.below E;have e5:=E.size;have g9:WdP H _ w3 g s (zde s) x0:=g8.lower (by omega);have e9:Below H W w3:=b1.trans (E.mono (by omega));have gd:=t3.cell;have fd:¬ (w1.heap.size<=H/\H<w3.heap.size):=by omega
 go_upto_region 9 with fail;have gh:Hid (actsF s c (zde s) (xs.take 0)=zde s):=hd' rfl;clear gd c0 c1 c2 t1 b1 g8 E lH fs hf;go_wp2;go_loopw [8] (fun v8 wr=>∃ (i:Nat) (F:Nat->Prop) (x:Wx),i<=n/\v8= .int .i64 i/\WdP H F wr g s (actsF s c (zde s) (xs.take i)) x/\¬ F H/\zaa wr H #[s.p,s.c,s.m] 23/\Below H W wr) (fun v8 _=>n-(intOf v8).toNat);case atStart=>exact⟨0,_,x0,Nat.zero_le _,rfl,by rw[gh.out];exact g9,fd,t3,e9⟩
 case round=>
  clear g9 e9 t3;obtain⟨i,F,x,h6,rfl,hx,bi,t,c9⟩:=hrel;have o:=fl.out i;have f5:(0:Int)<=(i:Int):=by omega
  have cu:=hx.lt;have cy:H<=wr.heap.size:=by have:=t.lt;omega
  by_cases hi:i<n
  ·have i7:(i:Int)<(n:Int):=by omega
   have gc:IntKind.i64.wrap ((i:Int)+1)=(i:Int)+1:=IntWalk.i64_in _ ⟨by omega,by omega⟩;have fz:i<xs.length:=hn.out ▸ hi;have bz:=actsF_take (s:=s) (c:=c) (d:=zde s) fz;obtain⟨gb,bh,rfl,b3⟩:=cd.out i fz;obtain⟨hq,zl⟩:=b3 H wr bv c9;generalize actsF s c (zde s) (xs.take i)=d at *;generalize ig:xs[i]=xc at *;obtain⟨ck,cc,co,ca,cn,cb⟩:=xc;dsimp only at bz;have z0:wr.cell? ⟨gb,bh+i*6,.none⟩=some (.int .i64 ck):=hq 0 (by omega);have z1:wr.cell? ⟨gb,bh+i*6+1,.none⟩=some (.int .i64 cc):=hq 1 (by omega);have z2:wr.cell? ⟨gb,bh+i*6+2,.none⟩=some (.int .i64 co):=hq 2 (by omega);have z3:wr.cell? ⟨gb,bh+i*6+3,.none⟩=some (.int .i64 ca):=hq 3 (by omega);have z4:wr.cell? ⟨gb,bh+i*6+4,.none⟩=some (.int .i64 cn):=hq 4 (by omega);have z5:wr.cell? ⟨gb,bh+i*6+5,.none⟩=some (.float .f64 cb):=hq 5 (by omega);have ez:=hd' (fun X=>znm ⟨ck,cc,co,ca,cn,cb⟩ X);replace ez:Hid (∀ X,Calls Tryz.prog 18 #[.agg #[ck,cc,co,ca,cn,.float .f64 cb]] X fun e w'=>e= .returned (.agg #[ck,cc,co,ca,cn,.float .f64 cb])/\Below X.heap.size X w'):=ez;have bk:Hid (∀ X,Below wr.heap.size wr X->Calls Tryz.prog 17 #[some g,.agg #[ck,cc,co,ca,cn,.float .f64 cb]] X fun e w'=>e= .returned (.int .i64 (d.act s ⟨ck,cc,co,ca,cn,cb⟩).2)/\WdTo H F X w' g s (d.act s ⟨ck,cc,co,ca,cn,cb⟩).1):=hd' fun X hb=>zkm (hx.below hb) (by have:=hb.size;omega) o.1 (by omega) ⟨ck,cc,co,ca,cn,cb⟩;clear hq b3 o;by_cases D:cc=c
   ·have ew:(cc !=c)=false:=by rw[D];simp
    have q:actsF s c (zde s) (xs.take (i+1))=d:=by rw[bz,if_neg (fun e=>e D)]
    clear bz D;go_wp2_with fail;exact⟨⟨i+1,F,x,by omega,by go_num,by rw[q];exact hx,bi,t,c9⟩,by simp only[intOf];omega⟩
   have ew:(cc !=c)=true:=by simpa using D
   have q:actsF s c (zde s) (xs.take (i+1))=(d.act s ⟨ck,cc,co,ca,cn,cb⟩).1:=by rw[bz,if_pos D]
   replace q:=hd' q;clear bz D;go_wp2_with (first|(go_at_call 18;(with_reducible refine(ez.out _).mono ?_);rintro r w6 ⟨rfl,c6⟩)|(go_at_call 17;(with_reducible refine(bk.out _ c6).mono ?_);rintro r w7 ⟨rfl,⟨x7,bn⟩,bm,ep⟩));have i9:=c6.size;have t7:=(t.below c6).only bm bi;have bq:¬ grow F w6 w7 H:=zif bi (t.below c6).lt;have bf:Below H W w7:=(c9.trans (c6.mono cy)).trans (bm.below (by omega) (fun j hj=>(cu j hj).1));exact⟨⟨i+1,_,x7,by omega,by go_num,by rw[q.out];exact bn,bq,t7,bf⟩,by simp only[intOf];omega⟩
  obtain rfl:i=n:=by omega
  have f7:¬ (i:Int)<(i:Int):=by omega
  go_upto_region 14 with fail;have ef:=fresh_actsF (fresh_new hm c) bx (xs.take i);generalize actsF s c (zde s) (xs.take i)=d0 at *;obtain⟨gz,eh⟩:=one_start ef o.1 f0;have b4:=ai_act o ⟨1,c,0,0,0,0⟩;have bk:Hid (Calls Tryz.prog 17 #[some g,.agg #[.int .i64 1,c,.int .i64 0,.int .i64 0,.int .i64 0,.float .f64 0]] wr fun e w'=>e= .returned (.int .i64 (d0.act s ⟨1,c,0,0,0,0⟩).2)/\WdTo H F wr w' g s (d0.act s ⟨1,c,0,0,0,0⟩).1):=hd' (zkm hx cy o.1 (by omega) ⟨1,c,0,0,0,0⟩);generalize (d0.act s ⟨1,c,0,0,0,0⟩).1=dS at *;generalize (d0.act s ⟨1,c,0,0,0,0⟩).2=er at *;subst gz;clear fl cd ef o bx f7 f5 h6;go_upto_region 16 with(first|(go_at_call 17;(with_reducible refine bk.out.mono ?_);rintro r w7 ⟨rfl,⟨x7,bn⟩,bm,ep⟩));have t7:=t.only bm bi;have bq:¬ grow F wr w7 H:=zif bi t.lt;have bf:Below H W w7:=c9.trans (bm.below cy (fun j hj=>(cu j hj).1));clear bk;have ba:=bn.lt;generalize grow F wr w7=F7 at *;clear hx cu bi c9 bm cy t;have f6:=b4.1.len;have g7:=zwg (fun _=>true) dS.l dS.l.length;obtain⟨O,M⟩:=all_killed eh b4;have ch:=ydq bn (by omega);obtain⟨S,i0,e8⟩:∃ S,Hid (S=whoL (fun _=>true) dS.l dS.l.length)/\S=whoL (fun _=>true) dS.l dS.l.length:=⟨_,hd' rfl,rfl⟩;rw[<-e8]at ch g7 O M;clear e8;replace ch:Hid (Calls Tryz.prog 51 #[some g] w7 fun e w'=>∃ v,e= .returned v/\Below w7.heap.size w7 w'/\w'.ownsRow w7.heap.size 3 1 v S.length (S.map (Value.int .i64))):=hd' ch;go_upto_region 17 with(first|(go_at_call 51;(with_reducible refine ch.out.mono ?_);rintro r w8 ⟨v8,rfl,z,cm⟩));clear ch;have ga:=bn.below z;have t8:=t7.below z;have ia:=z.size;have fj:H<=w8.heap.size:=by omega
  have eb:Below H W w8:=bf.trans (z.mono ep);obtain⟨al,cl,rfl,gy,hw,_,ei⟩:=RdS.zew cm;have bg:Hid (∀ i (hi:i<S.length),∃ b B,al=some ⟨b,B,.none⟩/\b<w8.heap.size/\¬ F7 b/\w8.cell? ⟨b,B+i,.none⟩=some (.int .i64 S[i])):=hd' fun i hi=>by obtain⟨b,B,h1,h2,h3⟩:=ei (by omega);have h4:=(cm.lt b (by rw[h1];rfl)).1;refine⟨b,B,h1,h2,fun e=>by have:=(ba b e).2;omega,(h3 i (by omega)).trans ?_⟩;rw[List.getElem?_map,List.getElem?_eq_getElem hi];rfl
  obtain⟨nL,e3,cj⟩:=hidv S.length;rw[<-cj]at gy ⊢;have hy:nL<=12:=by rw[cj];have:=b4.1.fi.bd;omega
  clear cj ei cm;have bs:WdTo H F7 w8 w8 g s dS:=(WdTq.start (R:=fun _=>True) ga fj br trivial).to;have fm:=hd' (fun i=>ai_weak (ai_killL (c:=c) (S.take i) b4) (show 2000+1+(S.take i).length<=3000 by rw[List.length_take];have:=e3.out;omega));have cz:Hid (killL s c dS (S.take 0)=dS):=hd' rfl;have bc:Hid (S.take nL=S):=hd' (by rw[e3.out];exact List.take_length);have e7:Hid (∀ j,F7 j->H<=j):=hd' fun j hj=>(ba j hj).1;clear bn ga z bf t7 ep f6 g7 ba;replace M:=hd' M;replace O:=hd' O;go_wp2_with fail;go_loopw [10] (fun f9 wr=>∃ i:Nat,i<=nL/\f9= .int .i64 i/\WdTo H F7 w8 wr g s (killL s c dS (S.take i))) (fun f9 _=>nL-(intOf f9).toNat);case atStart=>exact⟨0,Nat.zero_le _,rfl,by rw[cz.out];exact bs⟩
  case round=>
   clear bs;obtain⟨i,hi,rfl,hT⟩:=hrel;have f5:(0:Int)<=(i:Int):=by omega
   have o:=fm.out i;by_cases g0:i<nL
   ·have g1:(i:Int)<(nL:Int):=by omega
    have gc:IntKind.i64.wrap ((i:Int)+1)=(i:Int)+1:=IntWalk.i64_in _ ⟨by omega,by omega⟩;have fy:i<S.length:=by have:=e3.out;omega
    have cg:=killL_take (s:=s) (c:=c) (d:=dS) fy;obtain⟨bb,B,rfl,c5,bj,b3⟩:=bg.out i fy;have hz:wr.cell? ⟨bb,B+i,.none⟩=some (.int .i64 S[i]):=(World.cell?_of_block (hT.2.1.block bb c5 bj)).trans b3;have bu:=hT;obtain⟨⟨x',b6⟩,e4,bp⟩:=hT;generalize S[i]=y at *;generalize killL s c dS (S.take i)=d at *;have bk:Hid (Calls Tryz.prog 17 #[some g,.agg #[.int .i64 4,y,.int .i64 0,.int .i64 0,.int .i64 0,.float .f64 0]] wr fun e w'=>e= .returned (.int .i64 (d.act s ⟨4,y,0,0,0,0⟩).2)/\WdTo H F7 w8 w' g s (d.act s ⟨4,y,0,0,0,0⟩).1):=hd' ((zkm b6 bp o.1 (by omega) ⟨4,y,0,0,0,0⟩).mono fun e w' h=>⟨h.1,WdTo.trans bu h.2⟩);unfold killS at cg;by_cases D:y=c
    ·have ew:(y !=c)=false:=by rw[D];simp
     have q:killL s c dS (S.take (i+1))=d:=by rw[cg,if_neg (fun e=>e D)]
     clear cg D;go_wp2_with fail;exact⟨⟨i+1,by omega,by go_num,by rw[q];exact bu⟩,by simp only[intOf];omega⟩
    have ew:(y !=c)=true:=by simpa using D
    have q:killL s c dS (S.take (i+1))=(d.act s ⟨4,y,0,0,0,0⟩).1:=by rw[cg,if_pos D]
    replace q:=hd' q;clear cg D;go_wp2_with (first|(go_at_call 17;(with_reducible refine bk.out.mono ?_);rintro r w7 ⟨rfl,es⟩));exact⟨⟨i+1,by omega,by go_num,by rw[q.out];exact es⟩,by simp only[intOf];omega⟩
   obtain rfl:i=nL:=by omega
   have f7:¬ (i:Int)<(i:Int):=by omega
   rw[bc.out]at hT o;obtain⟨V,rfl⟩:∃ V:World,V=wr:=⟨_,rfl⟩;have tV:=t8.only hT.2.1 bq;have hh:H<w8.heap.size:=t8.lt;obtain⟨⟨xV,e6⟩,g5,gj⟩:=hT;have gi:¬ grow F7 w8 V H:=zif bq hh;have ec:Below H W V:=eb.trans (g5.below fj e7.out);have cs:=e6.lt;replace bc:=bc.out;generalize killL s c dS S=U at *;generalize grow F7 w8 V=F8 at *;clear bg fm cz bc e7 eb g5 bq t8 e3;have z:Hid (Below V.heap.size V V.drew):=hd' br.drew;have e2:Hid (∀ Z,Below V.heap.size V Z->Z.cell? ⟨H,0,.none⟩=some (.int .i64 s.p)/\Z.cell? ⟨H,1,.none⟩=some (.int .i64 s.c)/\Z.cell? ⟨H,2,.none⟩=some (.int .i64 s.m)):=hd' fun Z hZ=>⟨(tV.below hZ).cell 0,(tV.below hZ).cell 1,(tV.below hZ).cell 2⟩;have cq:Hid (∀ Z,Below V.heap.size V Z->Calls Tryz.prog 21 #[some g] Z fun e w'=>∃ v',e= .returned v'/\Below Z.heap.size Z w'/\RdZ .u64 w' v' U.m.ws):=hd' fun Z hZ=>(ycw (e6.below hZ)).mono fun e w' ⟨v,h1,h2,h3⟩=>⟨v,h1,h2,RdS.zew h3⟩;obtain⟨L,hL,fk⟩:∃ L,Hid (L=(jdOf s U).l)/\L=(jdOf s U).l:=⟨_,hd' rfl,rfl⟩;have b8:=fun Z v hv=>wblocks_any o v Z hv;rw[<-fk]at b8;clear fk;obtain⟨nl,g4,eg⟩:=hidv L.length
   replace b8:Hid (∀ Z v,RdZ .u64 Z v U.m.ws->Calls Tryz.prog 20 #[.agg #[s.p,s.c,s.m],v] Z fun e w'=>Below Z.heap.size Z w'/\∃ ao cap,e= .returned (.slice ao nl cap)/\nl<=cap/\(cap:Int)<=9223372036854775807/\
    Hid (∀ k (hk:k<L.length),∃ b B,ao=some ⟨b,B,.none⟩/\(Z.heap.size<=b/\b<w'.heap.size)/\w'.cell? ⟨b,B+k*2,.none⟩=some (.int .i64 (L[k]).a)/\w'.cell? ⟨b,B+k*2+1,.none⟩=some (.int .i64 (L[k]).n))):=hd' (by rw[eg];exact b8)
   clear eg;have a0:=tV.lt;go_upto_region 22 with fail
   go_region_held3 (fun Y=>Y.cell? ⟨H,0,.none⟩=some (.int .i64 s.p)/\Y.cell? ⟨H,1,.none⟩=some (.int .i64 s.c)/\Y.cell? ⟨H,2,.none⟩=some (.int .i64 s.m))
    (first|exact e2.out _ z.out|exact e2.out _ b5|exact e2.out _ b2)
    (first|(go_at_call 21;(with_reducible refine(cq.out _ z.out).mono ?_);rintro r w9 ⟨v9,rfl,c7,cp⟩;have b5:=z.out.trans (c7.mono z.out.size))|(go_at_call 20;(with_reducible refine(b8.out _ _ cp).mono ?_);rintro r w0 ⟨c4,ab,cb,rfl,gx,fw,hR⟩;have b2:=b5.trans (c4.mono b5.size)))
   have hg:=e6.below b2;have hl:=tV.below b2;have fp:Below H W w0:=ec.trans (b2.mono gj);have i8:=b2.size;have fh:H<=w0.heap.size:=by omega
   have ib:=b5.size;obtain⟨C,hC⟩:∃ C:Nat,(C:Int)=c:=⟨c.toNat,by omega⟩;have fb:=ado_0 o O.out M.out;have f4:s.c=c+1:=by have:=hc.out;omega
   have b0:=hd' (fun (i:Nat) (hi:i<=C)=>ado_all fb f0.2 i (by omega));have bw:=hd' (fun (i:Nat) (hi:i<C)=>ado_step (b0.out i (by omega)) (by omega) f0.2)
   have e1:Hid (∀ i,i<=C->AI s (adoN s c U i) 200000):=hd' fun i hi=>ai_weak (b0.out i hi).ai (by
    have:i*(1+z5k s)<=12*8001:=Nat.mul_le_mul (by omega) (by omega)
    omega)
   have ed:Hid (∀ wr,WdTo H F8 w0 wr g s (adoN s c U C)->Below H W wr):=hd' fun wr h=>fp.trans (h.2.1.below fh (fun j hj=>(cs j hj).1));have ea:Hid (∀ wr,Only F8 w0 wr->PairAt wr ab L):=hd' fun wr ho k hk=>by
    obtain⟨b,B,h1,h2,h3,h4⟩:=hR.out k hk;have g3:¬ F8 b:=fun e=>by have:=(cs b e).2;omega
    have ic:=ho.size;exact⟨b,B,h1,by omega,(World.cell?_of_block (ho.block b h2.2 g3)).trans h3,(World.cell?_of_block (ho.block b h2.2 g3)).trans h4⟩
   have bs:WdTo H F8 w0 w0 g s U:=(WdTq.start (R:=fun _=>True) hg fh br trivial).to;have cz:Hid (adoN s c U 0=U):=hd' rfl;have G:=ado_end (b0.out C lr) hC f4;have I:=(b0.out C lr).bl;rw[<-hL.out]at I;replace I:=hd' I;replace G:=hd' G;replace hC:=hd' hC;replace f4:=hd' f4;clear b8 cq e2 z b5 c7 cp c4 hR ec e6 tV a0 b2 fb O M eh o b4;go_wp2_with fail;go_loopw [12,13,14,15] (fun fa _ _ _ wr=>∃ i:Nat,i<=C/\fa= .int .i64 i/\WdTo H F8 w0 wr g s (adoN s c U i)) (fun fa _ _ _ _=>C-(intOf fa).toNat);case atStart=>exact⟨0,Nat.zero_le _,rfl,by rw[cz.out];exact bs⟩
   case round=>
    clear bs;obtain⟨i,hi,rfl,hT⟩:=hrel;have f5:(0:Int)<=(i:Int):=by omega
    have tr:=hl.only hT.2.1 gi;have lA:=tr.lt;by_cases g0:i<C
    ·have g1:(i:Int)<c:=by have:=hC.out;omega
     have gc:IntKind.i64.wrap ((i:Int)+1)=(i:Int)+1:=IntWalk.i64_in _ ⟨by omega,by omega⟩;obtain⟨_,f1,f2,f3⟩:=bw.out i g0;have o:=e1.out i (by omega);have bu:=hT;obtain⟨⟨x',b6⟩,e4,bp⟩:=hT;have f8:adoN s c U (i+1)=askW s (adoN s c U i) c ⟨4,i,0⟩:=rfl;have fn:Hid (∀ X,Below wr.heap.size wr X->Calls Tryz.prog 22 #[some g,.agg #[s.p,s.c,s.m],c,.agg #[.int .i64 4,.int .i64 (i:Int),.int .i64 0]] X fun e w'=>e= .returned (.tuple #[.int .i64 (ygv (adoN s c U (i+1))),.bool true])/\WdTo H F8 w0 w' g s (adoN s c U (i+1))):=hd' fun X hX=>by refine(yha (b6.below hX) (by have:=hX.size;omega) o.1 (by omega) c ⟨4,i,0⟩).mono fun e w' h=>?_;dsimp only at h;rw[if_pos f1]at h;rw[f8];exact⟨h.1,WdTo.trans bu (WdTo.from b6 bp hX h.2)⟩
     have ej:Hid (∀ X,Below wr.heap.size wr X->Calls Tryz.prog 46 #[some g,.int .i64 (i:Int)] X fun e w'=>e= .returned (.int .i64 (zrl s (adoN s c U i) i))/\Below X.heap.size X w'):=hd' fun X hX=>zmv (b6.below hX) o.1.fi o.1.fit i;have g6:Hid (∀ X,Below wr.heap.size wr X->X.cell? ⟨H,0,.none⟩=some (.int .i64 s.p)/\X.cell? ⟨H,1,.none⟩=some (.int .i64 s.c)/\X.cell? ⟨H,2,.none⟩=some (.int .i64 s.m)):=hd' fun X hX=>⟨(tr.below hX).cell 0,(tr.below hX).cell 1,(tr.below hX).cell 2⟩;have fx:Hid (∀ (X:World),WdTo H F8 w0 X g s (adoN s c U (i+1))->∃ j:Nat,j<=C/\Value.int .i64 ((i:Int)+1)= .int .i64 j/\WdTo H F8 w0 X g s (adoN s c U j)):=hd' fun X h3=>⟨i+1,by omega,by go_num,h3⟩;generalize ygv (adoN s c U (i+1))=er at *;generalize zrl s (adoN s c U i) i=sv at *;replace f8:=hd' f8;clear bu b6 e4 bp e1 bw b0 tr o;have ey:(sv=2/\er=0)\/(sv=3/\er=0)\/((sv==2)=false/\(sv==3)=false/\er=5):=by
      by_cases h2:sv=2
      ·exact .inl ⟨h2,f2.1 (.inl h2)⟩
      by_cases h3:sv=3
      ·exact .inr (.inl ⟨h3,f2.1 (.inr h3)⟩)
      exact .inr (.inr ⟨by simpa using h2,by simpa using h3,f3 fun e=>by rcases f2.2 e with h|h<;>contradiction⟩)
     clear f2 f3;rcases ey with⟨rfl,rfl⟩|⟨rfl,rfl⟩|⟨h2,h3,rfl⟩;all_goals go_upto_region 27 with(first|(go_at_call 46;(with_reducible refine(ej.out _ bj).mono ?_);rintro r w4 ⟨rfl,gp⟩;have eu:=bj.trans (gp.mono bj.size))|(go_at_call 46;(with_reducible refine(ej.out _ br).mono ?_);rintro r w2 ⟨rfl,bj⟩;have eu:=bj));obtain⟨c0,c1,c2⟩:=g6.out _ eu;go_wp2_with (first|(go_at_call 22;(with_reducible refine(fn.out _ eu).mono ?_);rintro r w3 ⟨rfl,es⟩));exact⟨fx.out _ es,by simp only[intOf];omega⟩
    have h0:i=C:=by omega
    have f7:¬ (i:Int)<c:=by have:=hC.out;omega
    subst h0;obtain⟨V2,rfl⟩:∃ V:World,V=wr:=⟨_,rfl⟩;obtain⟨σ,gR,gG,gB⟩:=G.out;have e0:=e1.out i lr;have hE:=hd' (ed.out _ hT);have gl:=hd' (ea.out _ hT.2.1);obtain⟨⟨x',b6⟩,e4,bp⟩:=hT;replace I:=I.out;generalize adoN s c U i=dE at *;have cq:Hid (∀ Z,Below V2.heap.size V2 Z->Calls Tryz.prog 21 #[some g] Z fun e w'=>∃ v',e= .returned v'/\Below Z.heap.size Z w'/\RdZ .u64 w' v' dE.m.ws):=hd' fun Z hZ=>(ycw (b6.below hZ)).mono fun e w' ⟨v,h1,h2,h3⟩=>⟨v,h1,h2,RdS.zew h3⟩
    have cr:Hid (∃ f t:Int,∀ v X,RdZ .u64 X v dE.m.ws->Calls Tryz.prog 47 #[.agg #[s.p,s.c,s.m],v] X fun e w'=>e= .returned (.agg #[f,t,.int .i64 0,.int .i64 0])/\Below X.heap.size X w'):=hd' ⟨(hpOf s dE.m).count.f,(hpOf s dE.m).count.t,fun v X hv=>by
     have h1:=ycv (hpOf s dE.m) v X hv e0.1.fit
     obtain⟨q1,q2⟩:=hp_count gR gG gB
     rw[q1,q2]at h1
     exact h1⟩
    have h8:Hid (∀ v X,RdZ .u64 X v dE.m.ws->Calls Tryz.prog 44 #[.agg #[s.p,s.c,s.m],v] X fun e w'=>e= .returned (.bool true)/\Below X.heap.size X w'):=hd' fun v X hv=>sndG_any (hpOf s dE.m) v X hv e0.1.fit (hp_sound gR gG) (hp_mag gR gG);have c8:=fun Z v hv=>wblocks_any e0 v Z hv;rw[I]at c8
    have b8:Hid (∀ Z v,RdZ .u64 Z v dE.m.ws->Calls Tryz.prog 20 #[.agg #[s.p,s.c,s.m],v] Z fun e w'=>Below Z.heap.size Z w'/\∃ ao cap,e= .returned (.slice ao nl cap)/\nl<=cap/\(cap:Int)<=9223372036854775807/\PairAt w' ao L):=hd' (by
     rw[g4.out]
     exact fun Z v hv=>(c8 Z v hv).mono fun e w' ⟨h1,ao,cap,h2,h3,h4,h5⟩=>⟨h1,ao,cap,h2,h3,h4,fun k hk=>(h5.out k hk).elim fun b ⟨B,k1,k2,k3,k4⟩=>⟨b,B,k1,k2.2,k3,k4⟩⟩)
    obtain⟨cf,ct,cr⟩:=cr.out;replace cr:=hd' cr;replace gR:=hd' gR;have hK:Hid (∀ Z,Below V2.heap.size V2 Z->Z.cell? ⟨H,0,.none⟩=some (.int .i64 s.p)/\Z.cell? ⟨H,1,.none⟩=some (.int .i64 s.c)/\Z.cell? ⟨H,2,.none⟩=some (.int .i64 s.m)):=hd' fun Z hZ=>⟨(tr.below hZ).cell 0,(tr.below hZ).cell 1,(tr.below hZ).cell 2⟩;obtain⟨c0,c1,c2⟩:=hK.out V2 br;clear c8 I e1 ed ea bw b0 G gB gG e0 e4 gR;go_upto_region 30 with fail;go_cut [16] (fun hs wx=>∃ p:Nat,hs= .pointer (some ⟨p,0,.none⟩)/\p<wx.heap.size/\Below V2.heap.size V2 wx/\wx.cell? ⟨p,2,.none⟩=some (.int .i64 0)/\wx.cell? ⟨p,3,.none⟩=some (.int .i64 0));case first=>
     go_region_held3 (fun X=>X.cell? ⟨H,0,.none⟩=some (.int .i64 s.p)/\X.cell? ⟨H,1,.none⟩=some (.int .i64 s.c)/\X.cell? ⟨H,2,.none⟩=some (.int .i64 s.m))
      (first|exact hK.out _ (by go_grown))
      (first|(go_at_call 21;(with_reducible refine(cq.out _ (by go_grown)).mono ?_);rintro r w9 ⟨v9,rfl,c7,cp⟩;have gg:=zab (w:=V2) (by go_grown) c7;have i3:=gg.size;try (have hz:=zco.below (N:=V2.heap.size) (c:=Cn.zero) (heap_alloc_new V2.drew (.cells #[.int .i64 0,.int .i64 0,.int .i64 0,.int .i64 0] 94)) c7;have q0:=hz.c0;have q1:=hz.c1;have q2:=hz.c2;have q3:=hz.c3;have qF:=hz.fr))|(go_at_call 47;(with_reducible refine(cr.out _ _ (by first|exact cp|exact cp.below (br.alloc lr _))).mono ?_);rintro r w7 ⟨rfl,ev⟩;have gf:=zab (w:=V2) (by go_grown) ev;have i2:=gf.size;try (first|(have hz:=hz.below ev;have q0:=hz.c0;have q1:=hz.c1;have q2:=hz.c2;have q3:=hz.c3;have qF:=hz.fr)|(have hz:=zco.below (N:=w9.heap.size) (c:=Cn.zero) (heap_alloc_new w9 (.cells #[.int .i64 0,.int .i64 0,.int .i64 0,.int .i64 0] 94)) ev;have q0:=hz.c0;have q1:=hz.c1;have q2:=hz.c2;have q3:=hz.c3;have qF:=hz.fr))))
     all_goals (go_wp2_with fail;go_meet)
     all_goals refine⟨_,rfl,?_,by go_grown,?_,?_⟩
     all_goals first|go_cell|go_size|(simp;done)|(simp;exact hz.lt)
    case rest=>
     obtain⟨p,rfl,hp,E,n2,n3⟩:=hcut;obtain⟨V3,rfl⟩:∃ V:World,V=wc:=⟨_,rfl⟩;have e5:=E.size;have z:Hid (Below V3.heap.size V3 V3.drew):=hd' br.drew;have b7:Hid (∀ Y:World,Below V3.heap.size V3 Y->(Y.cell? ⟨H,0,.none⟩=some (.int .i64 s.p)/\Y.cell? ⟨H,1,.none⟩=some (.int .i64 s.c)/\Y.cell? ⟨H,2,.none⟩=some (.int .i64 s.m)/\Y.cell? ⟨p,2,.none⟩=some (.int .i64 0)/\Y.cell? ⟨p,3,.none⟩=some (.int .i64 0))):=hd' fun Y hY=>by obtain⟨k0,k1,k2⟩:=hK.out Y (E.trans (hY.mono e5));exact⟨k0,k1,k2,zai hY _ _ _ n2,zai hY _ _ _ n3⟩
     have ek:Hid (∀ Z,Below V3.heap.size V3 Z->Calls Tryz.prog 21 #[some g] Z fun e w'=>∃ v',e= .returned v'/\Below Z.heap.size Z w'/\RdZ .u64 w' v' dE.m.ws):=hd' fun Z hZ=>cq.out Z (E.trans (hZ.mono e5));have h7:Hid (∀ X a2 (c2:Nat),nl<=c2->(c2:Int)<=9223372036854775807->PairAt X a2 L->Below V3.heap.size V3 X->Calls Tryz.prog 52 #[.slice a2 nl c2,.slice ab nl cb] X fun e w'=>e= .returned (.bool true)/\Below X.heap.size X w'):=hd' fun X a2 c2 h1 h2 h3 h4=>pairs_any L nl g4 a2 ab c2 cb X h1 gx h2 fw h3 (gl.out.below (E.trans (h4.mono e5)));obtain⟨c0,c1,c2,n2,n3⟩:=b7.out V3 br;go_upto_region 31 with fail
     go_region_held3 (fun Y=>Y.cell? ⟨H,0,.none⟩=some (.int .i64 s.p)/\Y.cell? ⟨H,1,.none⟩=some (.int .i64 s.c)/\Y.cell? ⟨H,2,.none⟩=some (.int .i64 s.m)/\Y.cell? ⟨p,2,.none⟩=some (.int .i64 0)/\Y.cell? ⟨p,3,.none⟩=some (.int .i64 0))
      (first|exact b7.out _ z.out|exact b7.out _ fc|exact b7.out _ cx|exact b7.out _ em|exact b7.out _ cv|exact b7.out _ el)
      (first|(go_at_call 21;(with_reducible refine(ek.out _ cv).mono ?_);rintro r wB ⟨vB,rfl,gr,ha⟩;have em:=cv.trans (gr.mono cv.size))|(go_at_call 21;(with_reducible refine(ek.out _ z.out).mono ?_);rintro r wA ⟨vA,rfl,gq,h9⟩;have el:=z.out.trans (gq.mono z.out.size))|(go_at_call 44;(with_reducible refine(h8.out _ _ h9).mono ?_);rintro r wS ⟨rfl,gs⟩;have cv:=el.trans (gs.mono el.size))|(go_at_call 20;(with_reducible refine(b8.out _ _ ha).mono ?_);rintro r wT ⟨gu,aT,cT,rfl,gw,fu,gm⟩;have cx:=em.trans (gu.mono em.size))|(go_at_call 52;(with_reducible refine(h7.out _ _ _ gw fu gm cx).mono ?_);rintro r wU ⟨rfl,gv⟩;have fc:=cx.trans (gv.mono cx.size)))
     go_wp2_with fail;go_returns;exact⟨rfl,((hE.out.trans (E.mono (by omega))).trans (fc.mono (by omega))).mono bv⟩
end

end Go.Proofs.YtkbddndcegpllaaGreat
