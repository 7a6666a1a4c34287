/- Lemmas for the claim. -/
import Derived.Test.YtkilokkopbajkaaGreatBw39

set_option linter.all false
set_option maxHeartbeats 8000000
set_option maxRecDepth 100000
namespace Go.Proofs.YtkilokkopbajkaaGreat

section

def Told (d:Wd) (c:Int):Prop:=∃ l e,d.tr=l ++ [e]/\e.k=5/\e.c=c
def Due (d:Wd) (c i:Int):Prop:=∃ k,d.kl c=some k/\((k.job≠none/\k.steps=i)\/(k.job=none/\Told d c))
theorem FH{s:Sh}{d:Wd}{c:Int}{k:Kl}(b:d.kl c=some k)(hc:0<=c/\c<s.c):d.act s (VA c)=d.step s c k:=by
 unfold Wd.act;rw[jN (by unfold Ch.bad VA;dsimp only;omega),jN (show ¬ (VA c).kind=1 from (show ¬ (3:Int)=1 by decide))];have e:d.kl (VA c).client=some k:=b;rw[e];exact jP rfl
theorem z6c{s:Sh}{d:Wd}{n:Nat}{c:Int}{k:Kl}{j:Jb}(i:wdOk s d n)(f:d.kl c=some k)(p:k.job=some j):(d.act s (VA c)).2=0/\Due (d.act s (VA c)).1 c (k.steps+1):=by
 obtain⟨r,b,hc⟩:=i.kl _ _ f;rw[FH f hc];have hi:c.toNat<d.l.length:=by rw[i.len];omega
 have e:k.step s d.m=(k.after (j.step s k.c d.m).1,(j.step s k.c d.m).2,k.tells (j.step s k.c d.m).1,0):=by unfold Kl.step;rw[p]
 unfold Wd.step;rw[e];dsimp only;refine⟨rfl,k.after (j.step s k.c d.m).1,?_,?_⟩
 ·rw[d.TB hc.1 hi,jP rfl]
 unfold Kl.after;dsimp only;by_cases hd:(j.step s k.c d.m).1.done=true
 ·rw[jP hd];refine .inr ⟨rfl,?_⟩
  obtain⟨l,q⟩:∃ l,d.tr++k.tells (j.step s k.c d.m).1=l++[OA k.c k.op (sB (j.step s k.c d.m).1.took) (j.step s k.c d.m).1.err]:=
   ⟨_,by unfold Kl.tells;rw[jP hd,<- List.append_assoc,<- List.append_assoc]⟩
  exact⟨l,_,q,rfl,b⟩
 rw[jN hd];exact .inl ⟨by simp,rfl⟩
theorem ZJ{s:Sh}{d:Wd}{n:Nat}{c i:Int}(f:wdOk s d n)(h:Due d c i)(hi:110*s.p+4*s.m+60<=i):∃ k,d.kl c=some k/\k.job=none/\Told d c:=by
 obtain⟨k,b,h1|h1⟩:=h
 ·rcases hj:k.job with _|j
  ·exact absurd hj h1.1
  have:=KT (f.kl _ _ b).1 (by have:=f.fi.bd;omega) hj;omega
 exact⟨k,b,h1⟩
theorem TJ{s:Sh}{d:Wd}{c:Int}{k:Kl}(f:d.kl c=some k)(b:k.job=none):d.goS s c=d:=by
 unfold Wd.goS;rw[f];dsimp only;rw[b,jN (by simp)]
theorem lI{s:Sh}{d:Wd}{c:Int}{k:Kl}(f:d.kl c=some k)(b:k.job≠none):d.goS s c=(d.act s (VA c)).1:=by
 unfold Wd.goS;rw[f];dsimp only;rw[jP (by rcases h:k.job with _|j;exact absurd h b;rfl)]
theorem DQ{s:Sh}{d:Wd}{n:Nat}{c:Int}(b:wdOk s d n):wdOk s (d.goS s c) (n+1):=by
 have h:=FG b (VA c);have f:wdOk s d (n+1):=⟨b.fi,b.fit,b.len,b.kl,⟨b.st.1,by have:=b.st.2;omega⟩,by have:=b.tr;omega,b.lg⟩;unfold Wd.goS;split
 ·split
  ·exact h
  exact f
 exact f
theorem cG{s:Sh}{d:Wd}{n:Nat}{c:Int}(b:wdOk s d n)(i:Nat):wdOk s (d.goN s c i) (n+i):=by
 induction i with
 |zero=>exact b
 |succ i f=>exact DQ f
theorem PI{s:Sh}{d:Wd}{c:Int}{i:Nat}{k:Kl}(f:(d.goN s c i).kl c=some k)(b:k.job=none)(m:Nat):d.goN s c (i+m)=d.goN s c i:=by
 induction m with
 |zero=>rfl;|succ m j=>show (d.goN s c (i+m)).goS s c=_;rw[j,TJ f b]
theorem OI{s:Sh}{d:Wd}{n:Nat}{c a:Int}(f:wdOk s d n)(h:Due d c a)(i:Nat):Due (d.goN s c i) c (a+i):=by
 induction i with
 |zero=>show Due d c (a+((0:Nat):Int));rw[show a+((0:Nat):Int)=a by omega];exact h
 |succ i l=>
  obtain⟨k,b,h1|h1⟩:=l
  ·have e:d.goN s c (i+1)=((d.goN s c i).act s (VA c)).1:=lI b h1.1;rcases hj:k.job with _|j
   ·exact absurd hj h1.1
   rw[e];have h2:=(z6c (cG f i) b hj).2;rw[h1.2]at h2;rw[show a+((i+1:Nat):Int)=a+i+1 by omega];exact h2
  have e:d.goN s c (i+1)=d.goN s c i:=TJ b h1.1;rw[e];exact⟨k,b,.inr h1⟩
theorem aN{s:Sh}{d:Wd}{n:Nat}{x:Ch}(p:wdOk s d n)(q:x.kind=2)(h:(d.act s x).2=0):0<=x.client/\x.client<s.c/\Due (d.act s x).1 x.client 0:=by
 unfold Wd.act at h ⊢;by_cases hb:x.bad s
 ·rw[jP hb]at h;exact absurd h (show (1:Int)≠0 by decide)
 rw[jN hb]at h ⊢;unfold Ch.bad at hb;have hc:0<=x.client/\x.client<s.c:=by omega
 refine⟨hc.1,hc.2,?_⟩;rw[jN (by omega)]at h ⊢;cases hk:d.kl x.client with
 |none=>rw[hk]at h;exact absurd h (show (2:Int)≠0 by decide);|some k=>
  rw[hk]at h;dsimp only at h ⊢;rw[jN (by omega),jP q]at h ⊢;have hi:x.client.toNat<d.l.length:=by rw[p.len];omega
  have m:=(p.kl _ _ hk).2.1;unfold Wd.ask at h ⊢;dsimp only at h ⊢;refine⟨(k.invoke s x.op).1,by rw[d.TB hc.1 hi,jP rfl],?_⟩;unfold Kl.invoke at h ⊢;split at h
  ·exact absurd h (show (4:Int)≠0 by decide)
  rename_i b;split at h
  ·exact absurd h (show (1:Int)≠0 by decide)
  rename_i i;rw[jN b,jN i];have f:k.job=none:=by
   unfold Kl.rests at b;rcases hj:k.job with _|j
   ·rfl
   rw[hj]at b;simp at b
  split
  ·refine .inr ⟨f,?_⟩;exact⟨d.tr++[NA k.c x.op],OA k.c x.op 0 (WC s k.c x.op.k x.op.a x.op.n),by simp,rfl,m⟩
  exact .inl ⟨by simp,rfl⟩
def askW (s:Sh) (d:Wd) (c:Int) (o:Op3):Wd:=(d.act s ⟨2,c,o.k,o.a,o.n,0⟩).1.goN s c (JA s)
def RC (d:Wd):Int:=match d.tr.getLast? with
 | some e=> e.er
 | none=> 0
theorem uN{s:Sh}{d:Wd}{n:Nat}{c:Int}{o:Op3}(b:wdOk s d n):wdOk s (askW s d c o) (n+1+JA s):=cG (FG b _) _
section

variable {J:Jd} {e:Ev} {W:Int} {L:List Bk} {o:Op3} {c:Int}

theorem iI(h:(whyJ J.W J.l J.ps e).c=0):¬ (e.c<0\/(J.ps.length:Int)<=e.c\/e.k<0\/5<e.k):=by
 intro h1;unfold whyJ at h;rw[jP h1]at h;exact absurd h (show (1:Int)≠0 by decide)
theorem fI(h:(whyJ J.W J.l J.ps e).c=0)(f:3<=e.k):(J.pt e.c).lives=true/\(J.pt e.c).asks=true:=by
 have h1:=iI h;unfold whyJ at h;rw[jN h1,jN (by omega)]at h;by_cases h2:(J.ps.getD e.c.toNat Pt.zero).lives=false\/(J.ps.getD e.c.toNat Pt.zero).asks=false
 ·rw[jP h2]at h;exact absurd h (show (1:Int)≠0 by decide)
 have h3:(J.pt e.c).lives=true:=by
  cases h4:(J.pt e.c).lives
  ·exact absurd (.inl h4) h2
  rfl
 have b:(J.pt e.c).asks=true:=by
  cases h4:(J.pt e.c).asks
  ·exact absurd (.inr h4) h2
  rfl
 exact⟨h3,b⟩
theorem CN(f:J.why=0)(h:(CA J e).why=0)(i:e.k=4):IF J.l (J.pt e.c) e=0/\yG J (CA J e) e.c (DB J.l e.at') { J.pt e.c with gave:=true}:=by
 have h0:=XG f h;have h1:=iI h0;obtain⟨h2,h3⟩:=fI h0 (by omega);have b:whyJ J.W J.l J.ps e=if IF J.l (J.pt e.c) e=0 then⟨0,DB J.l e.at',J.ps.set e.c.toNat { J.pt e.c with gave:=true}⟩ else⟨IF J.l (J.pt e.c) e,J.l,J.ps⟩:=by
  unfold whyJ
  rw[jN h1,jN (by omega),jN (by
   intro h4
   rcases h4 with h4|h4
   ·exact absurd (h2.symm.trans h4) (by decide)
   ·exact absurd (h3.symm.trans h4) (by decide)),jN (by omega),jP i]
  rfl
 by_cases h4:IF J.l (J.pt e.c) e=0
 ·rw[jP h4]at b;exact⟨h4,JE f ⟨by omega,by omega⟩ b⟩
 rw[jN h4]at b;rw[b]at h0;exact absurd h0 h4
theorem DN(f:J.why=0)(h:(CA J e).why=0)(i:e.k=3):HF J.W J.l (J.pt e.c) e=0/\yG J (CA J e) e.c (putB J.l e.at' e.n) { J.pt e.c with took:=true,at':=e.at'}:=by
 have h0:=XG f h;have h1:=iI h0;obtain⟨h2,h3⟩:=fI h0 (by omega);have b:whyJ J.W J.l J.ps e=if HF J.W J.l (J.pt e.c) e=0 then⟨0,putB J.l e.at' e.n,J.ps.set e.c.toNat { J.pt e.c with took:=true,at':=e.at'}⟩ else⟨HF J.W J.l (J.pt e.c) e,J.l,J.ps⟩:=by
  unfold whyJ
  rw[jN h1,jN (by omega),jN (by
   intro h4
   rcases h4 with h4|h4
   ·exact absurd (h2.symm.trans h4) (by decide)
   ·exact absurd (h3.symm.trans h4) (by decide)),jP i]
  rfl
 by_cases h4:HF J.W J.l (J.pt e.c) e=0
 ·rw[jP h4]at b;exact⟨h4,JE f ⟨by omega,by omega⟩ b⟩
 rw[jN h4]at b;rw[b]at h0;exact absurd h0 h4
theorem AR(f:J.why=0)(h:(CA J e).why=0)(i:e.k=5):DC (J.pt e.c) e=true/\yG J (CA J e) e.c J.l { J.pt e.c with asks:=false}:=by
 have h0:=XG f h;have h1:=iI h0;obtain⟨h2,h3⟩:=fI h0 (by omega);have b:whyJ J.W J.l J.ps e=if DC (J.pt e.c) e=true then⟨0,J.l,J.ps.set e.c.toNat { J.pt e.c with asks:=false}⟩ else⟨4,J.l,J.ps⟩:=by
  unfold whyJ
  rw[jN h1,jN (by omega),jN (by
   intro h4
   rcases h4 with h4|h4
   ·exact absurd (h2.symm.trans h4) (by decide)
   ·exact absurd (h3.symm.trans h4) (by decide)),jN (by omega),jN (by omega)]
  rfl
 by_cases h4:DC (J.pt e.c) e=true
 ·rw[jP h4]at b;exact⟨h4,JE f ⟨by omega,by omega⟩ b⟩
 rw[jN h4]at b;rw[b]at h0;exact absurd h0 (show (4:Int)≠0 by decide)
theorem rR(f:J.why=0)(h:(CA J (NA c o)).why=0):yG J (CA J (NA c o)) c J.l ⟨true,true,true,o.k,o.a,o.n,false,false,0,false⟩:=by
 have h0:=XG f h;have h1:=iI h0;have b:whyJ J.W J.l J.ps (NA c o)=⟨rD (J.pt c) (NA c o),J.l,J.ps.set c.toNat (LD (J.pt c) (NA c o))⟩:=by unfold whyJ;rw[jN h1,jP (show (NA c o).k<3 from (show (2:Int)<3 by decide))];rfl
 have h2:rD (J.pt c) (NA c o)=0:=by rw[b]at h0;exact h0
 have h3:LD (J.pt c) (NA c o)=⟨true,true,true,o.k,o.a,o.n,false,false,0,false⟩:=by unfold LD;rw[jN (by omega),jN (show ¬ (NA c o).k=0 from (show ¬ (2:Int)=0 by decide)),jN (show ¬ (NA c o).k=1 from (show ¬ (2:Int)=1 by decide))];rfl
 rw[h2,h3]at b;have h4:¬ (c<0\/(J.ps.length:Int)<=c\/(2:Int)<0\/(5:Int)<2):=h1;exact JE f (e:=NA c o) ⟨show 0<=c by omega,show c.toNat<J.ps.length by omega⟩ b
end

end

section

open Go.RowKit

attribute [local go_sem ↓] Go.wp_at_zero Go.wp_at_succ

theorem sQ{F:Nat->Prop}{w:World}{q:Nat}{s:Sh}{k:Kl}(h:KlO F w q s k):Calls Tryz.prog 25 #[some q] w fun e w'=>e= .returned (.bool k.rests)/\w'=w:=by
 have b:=hd' h.rests;clear h;have j:∀ W:World,(binOp .neq 57 (.pointer (some ⟨q,0,.none⟩)) (.pointer none)).run Tryz.prog W= .ok (.bool true) W:=fun W=>by kernel_rfl
 generalize k.rests=r at *;go_in;go_wp2_with (go_at_call 66;(with_reducible refine b.out.mono ?_);rintro r l ⟨rfl,i⟩;obtain rfl:=i.symm);go_returns;exact⟨rfl,rfl⟩
attribute [local go_sem] dP

theorem VW{B:Nat}{F:Nat->Prop}{W:World}{g:Nat}{s:Sh}{d:Wd}{x:Wx}(h:WdP B F W g s d x)(c:Int)(hc:0<=c/\c.toNat<d.l.length)(i:d.l.length<=100):
  Calls Tryz.prog 24 #[some g,c] W fun e w'=>e= .returned (ptrK (d.kl c) (x.qs c.toNat))/\Below W.heap.size W w':=by
 have b:∀ (p:Nat) (W:World),(binOp .eql 27 (.pointer (some ⟨p,0,.none⟩)) (.pointer none)).run Tryz.prog W= .ok (.bool false) W:=fun p W=>by kernel_rfl
 have c4:=ce (.slice (some ⟨x.lb,0,.none⟩) d.l.length d.l.length) (h.top.cell 4);have lg:=h.top.lt;have q:=h.ptr hc.1 hc.2;have j:=h.lst.lt;have h0:=hc.1;have h1:c<(d.l.length:Int):=by omega
 have h2:¬ c<0:=by omega
 have h3:¬ (d.l.length:Int)<=c:=by omega
 clear h hc;generalize ptrK (d.kl c) (x.qs c.toNat)=m at *;go_in;go_wp2_with fail;go_returns;exact⟨rfl,by go_grown⟩
end

section

open Go.RowKit

attribute [local go_sem ↓] Go.wp_at_zero Go.wp_at_succ

theorem SS:(Tryz.prog.info? 3).map (fun i=>(i.zero,i.size,i.bytes))=some (some (.int .i64 0),1,8):=by kernel_rfl
def whoB (P:Kl->Bool) (l:List (Option Kl)) (c:Nat):Bool:=match l.getD c none with
 | some k=> P k
 | none=> false
def whoL (P:Kl->Bool) (l:List (Option Kl)) (n:Nat):List Int:=((List.range n).filter (whoB P l)).map (fun c:Nat=> (c:Int))
theorem HW(P:Kl->Bool)(l:List (Option Kl))(n:Nat):whoL P l (n+1)=whoL P l n++if whoB P l n=true then [(n:Int)] else []:=by
 unfold whoL;rw[List.range_succ,List.filter_append,List.map_append];congr 1;by_cases h:whoB P l n=true
 ·rw[jP h];simp[h]
 rw[jN h];simp[h]
theorem VJ(P:Kl->Bool)(l:List (Option Kl))(n:Nat):(whoL P l n).length<=n:=by
 unfold whoL;rw[List.length_map];have h:=List.length_filter_le (whoB P l) (List.range n);rw[List.length_range]at h;exact h
end

section

theorem QN{s:Sh}(h:mayB s.p s.c s.m=true):JA s<=8000:=by
 have hb:=LA.1 h;unfold JA;omega
end

section

open Go.RowKit

attribute [local go_sem ↓] Go.wp_at_zero Go.wp_at_succ

theorem pN(s:Sh)(i:mayB s.p s.c s.m=true)(w:World):
  Calls Tryz.prog 39 #[.agg #[s.p,s.c,s.m]] w fun e w'=>e= .returned (.int .i64 (JA s:Int))/\Below w.heap.size w w':=by
 have hb:=LA.1 i;have b:=fun W=>tC s.p s.c s.m W;rw[i]at b;have j:((JA s:Nat):Int)=110*s.p+4*s.m+60:=by unfold JA;omega
 rw[j];clear j;obtain⟨p,c,m⟩:=s;dsimp only at b hb ⊢;have l:=wrp (110*p);have q:=wrp (4*m);have r:=wrp (110*p+4*m);have t:=wrp (110*p+4*m+60);replace b:=hd' b;clear i hb;go_in;go_wp2_with (go_at_call 86;refine(b _).mono ?_;rintro e l ⟨rfl,rfl⟩);go_ret;exact⟨rfl,by go_grown⟩
section

variable {B:Nat} {F:Nat->Prop} {W W1 W2:World} {g:Nat} {s:Sh} {d d2:Wd} {x:Wx} {n:Nat}

theorem KQ(h:WdP B F W g s d x)(b:B<=W.heap.size)(j:wdOk s d n)(i:n<=30000000)(c:Int)(hc:0<=c/\c<s.c):
  Calls Tryz.prog 11 #[some g,.agg #[.int .i64 3,c,.int .i64 0,.int .i64 0,.int .i64 0,.float .f64 0]] W fun e w'=>e= .returned (.int .i64 (d.act s (VA c)).2)/\WdTq (fun q=>q=x.qs) B F W w' g s (d.act s (VA c)).1:=
 (LS h b j i (VA c) (by unfold Ch.bad VA;dsimp only;omega)).mono fun e w' h=>⟨h.1,h.2.imp fun q e=>e rfl⟩
def TrAt (w:World) (v:Value) (c er:Int):Prop:=∃ b off cap m:Nat,v= .slice (some ⟨b,off,.none⟩) (m + 1) cap/\m + 1<=cap/\(cap:Int)<=9223372036854775807/\b < w.heap.size/\w.cell? ⟨b,off + m * 8,.none⟩=some (.int .i64 5)/\w.cell? ⟨b,off + m * 8 + 1,.none⟩=some (.int .i64 c)/\w.cell? ⟨b,off + m * 8 + 7,.none⟩=some (.int .i64 er)
theorem qN(l:List Ev)(e:Ev)(k:Nat)(i:k<8):((l++[e]).flatMap fun e=>e.cells.toList)[l.length*8+k]?=e.cells.toList[k]?:=by
 have b:(l.flatMap fun e=>e.cells.toList).length=l.length*8:=by
  induction l with
  |nil=>rfl
  |cons a l f=>rw[List.flatMap_cons,List.length_append,f];show 8+_=(l.length+1)*8;omega
 rw[List.flatMap_append,List.getElem?_append_right (by omega),b,show l.length*8+k-l.length*8=k by omega];simp
theorem yg2(h:WdP B F W g s d x)(z:d.tr.length<=100000000)(c:Int)(E:Told d c):
  Calls Tryz.prog 26 #[some g] W fun e w'=>Below W.heap.size W w'/\∃ v,e= .returned v/\TrAt w' v c (RC d):=by
 obtain⟨l,m,h1,h2,h3⟩:=E;refine(UO h z).mono fun e w' ⟨v,q,r,t⟩=>⟨r,v,q,?_⟩;obtain⟨ao,cap,rfl,hc,C,_,D⟩:=RdS.GC t;have j:d.tr.length=l.length+1:=by rw[h1];simp
 obtain⟨b,p,rfl,hb,i⟩:=D (by omega);have y:RC d=m.er:=by unfold RC;rw[h1];simp
 rw[y];refine⟨b,p,cap,l.length,by rw[j],by omega,C,hb,?_,?_,?_⟩
 ·refine(i (l.length*8) (by rw[j];omega)).trans ?_;rw[h1];refine(qN l m 0 (by omega)).trans ?_;rw[<-h2];rfl
 ·rw[Nat.add_assoc];refine(i (l.length*8+1) (by rw[j];omega)).trans ?_;rw[h1];refine(qN l m 1 (by omega)).trans ?_;rw[<-h3];rfl
 rw[Nat.add_assoc];refine(i (l.length*8+7) (by rw[j];omega)).trans ?_;rw[h1];exact qN l m 7 (by omega)
theorem QI(h:WdP B F W g s d x)(hB:B<=W.heap.size)(ho:wdOk s d n)(hn:n+1+JA s<=30000000)(c:Int)(o:Op3):
  Calls Tryz.prog 18 #[some g,.agg #[s.p,s.c,s.m],c,.agg #[o.k,o.a,o.n]] W fun e w'=>
   (if (d.act s ⟨2,c,o.k,o.a,o.n,0⟩).2=0 then e= .returned (.tuple #[.int .i64 (RC (askW s d c o)),.bool true])/\WdTo B F W w' g s (askW s d c o)
    else e= .returned (.tuple #[.int .i64 0,.bool false])/\WdTo B F W w' g s (d.act s ⟨2,c,o.k,o.a,o.n,0⟩).1):=by
 have hm:=ho.fi.may;have b8:=fun Y=>pN s hm Y;have bs:=((Below.refl W.heap.size W).alloc lr (.cells #[s.p,s.c,s.m] 23));have b6:=bs.alloc bs.size (.cells #[o.k,o.a,o.n] 32);obtain⟨rA,rO,e6,_⟩:=PD W (.cells #[s.p,s.c,s.m] 23) (.cells #[o.k,o.a,o.n] 32);have tA:aA ((W.alloc (.cells #[s.p,s.c,s.m] 23)).alloc (.cells #[o.k,o.a,o.n] 32)) W.heap.size #[s.p,s.c,s.m] 23:=rA;have tO:aA ((W.alloc (.cells #[s.p,s.c,s.m] 23)).alloc (.cells #[o.k,o.a,o.n] 32)) (W.heap.size+1) #[o.k,o.a,o.n] 32:=rO;have cz:∀ (p:Nat) (W:World),(binOp .eql 57 (.pointer (some ⟨p,0,.none⟩)) (.pointer none)).run Tryz.prog W= .ok (.bool false) W:=fun p W=>by kernel_rfl
 clear rA rO bs;have z:=FG ho ⟨2,c,o.k,o.a,o.n,0⟩;have I:=fun e=>aN ho (x:=⟨2,c,o.k,o.a,o.n,0⟩) rfl e;obtain⟨b1,E,bg⟩:=hidv (askW s d c o);rw[<-bg];clear bg;replace E:=hd' (E.out.trans (show askW s d c o=(d.act s ⟨2,c,o.k,o.a,o.n,0⟩).1.goN s c (JA s) from rfl));obtain⟨d1,cr,bi⟩:∃ b,Hid (b=(d.act s ⟨2,c,o.k,o.a,o.n,0⟩).1)/\b=(d.act s ⟨2,c,o.k,o.a,o.n,0⟩).1:=⟨_,hd' rfl,rfl⟩;obtain⟨er,cs,bj⟩:∃ b,Hid (b=(d.act s ⟨2,c,o.k,o.a,o.n,0⟩).2)/\b=(d.act s ⟨2,c,o.k,o.a,o.n,0⟩).2:=⟨_,hd' rfl,rfl⟩;rw[<-bi]at E z I ⊢;rw[<-bj]at I ⊢;clear bi bj;go_in;go_upto_region 1 with fail;generalize (W.alloc (.cells #[s.p,s.c,s.m] 23)).alloc (.cells #[o.k,o.a,o.n] 32)=W2 at *;obtain⟨H,hH,c6⟩:=hidv W.heap.size;rw[<-c6]at tA tO ⊢;clear c6;have e0:=h.below b6;have e9:=tA.lt;have bn:B<=W2.heap.size:=by omega
 have y:∀ i,F i->B<=i/\i<H:=fun i hi=>by have:=h.lt i hi;have:=hH.out;omega
 have c5:¬ F H:=fun e=>by have:=(y H e).2;omega
 have Z:jK 11 #[some g,.agg #[.int .i64 2,c,o.k,o.a,o.n,.float .f64 0]] W2 fun e w'=>e= .returned (.int .i64 (d.act s ⟨2,c,o.k,o.a,o.n,0⟩).2)/\WdTo B F W2 w' g s (d.act s ⟨2,c,o.k,o.a,o.n,0⟩).1:=TO e0 bn ho (by omega) ⟨2,c,o.k,o.a,o.n,0⟩;have T:∀ w' dd,WdTo B F W2 w' g s dd->WdTo B F W w' g s dd:=fun w' dd hk=>WdTo.from h hB b6 hk;rw[<-cr,<- cs]at Z;have cg:=tO.cell;have lO:=tO.lt;replace Z:=hd' Z;replace b8:=hd' b8;replace I:=hd' I;replace T:=hd' T;replace b6:=hd' b6;clear h;by_cases h0:¬ er=0
 ·have be:(er==0)=false:=by rw[beq_eq_false_iff_ne];exact h0
  go_wp2_with (first|(go_at_call 11;(with_reducible refine Z.out.mono ?_);rintro r w3 ⟨rfl,hT⟩));go_returns;exact⟨rfl,T _ _ hT⟩
 replace h0:=Decidable.not_not.1 h0;obtain⟨b7,c8,hD⟩:=I h0;dsimp only at b7 c8 hD;subst h0;obtain⟨k1,ca,_⟩:=id hD;have cp:c.toNat<d1.l.length:=(Wd.lC ca).2;have cx:d1.l.length<=100:=by rw[z.len];have:=ho.fi.bd;omega
 go_upto_region 3 with(first|(go_at_call 11;(with_reducible refine Z.out.mono ?_);rintro r w3 ⟨rfl,hT⟩));have tA3:=tA.only hT.2.1 c5;obtain⟨⟨x3,bx⟩,cc,c4⟩:=id hT;have G:=VW bx c ⟨b7,cp⟩ cx;rw[ca]at G;replace G:Hid (jK 24 #[some g,c] w3 fun e w'=>e= .returned (.pointer (some ⟨x3.qs c.toNat,0,.none⟩))/\Below w3.heap.size w3 w'):=hd' G;have b5:WdTq (fun q=>q=x3.qs) B F W2 w3 g s d1:=⟨⟨x3,bx,rfl⟩,cc,c4⟩;clear cg lO tO bx cc c4;replace b5:=hd' b5;go_upto_region 6 with(first|(go_at_call 24;(with_reducible refine G.out.mono ?_);rintro r w4 ⟨rfl,bq⟩));have c7:=b5.out.below bn (fun i hi=>⟨(y i hi).1,by have:=(y i hi).2;omega⟩) bq;have tA4:=tA3.below bq;generalize x3.qs=Q at *;clear b5 G bq hT tA3;have R:∀ i,JA s<=i->∃ k,(d1.goN s c i).kl c=some k/\k.job=none:=fun i hi=>by obtain⟨k,h1,h2,_⟩:=ZJ (cG z i) (OI z hD i) (by unfold JA at hi;omega);exact⟨k,h1,h2⟩
 have hM:JA s<=8000:=by unfold JA;have:=ho.fi.bd;omega
 have cq:0<=c/\c<s.c:=⟨b7,c8⟩;generalize JA s=M at *;replace R:=hd' R;go_wp2;go_loopw [11] (fun bz wr=>∃ i:Nat,i<=M/\bz= .int .i64 i/\WdTq (fun q=>q=Q) B F W2 wr g s (d1.goN s c i)) (fun bz _=>M-(intOf bz).toNat);case atStart=>exact⟨0,Nat.zero_le _,rfl,c7⟩
 case round=>
  clear c7 tA4;obtain⟨i,hi,rfl,hT⟩:=hrel;have U:=cG z (c:=c) i;have cj:=OI z hD i;have cf:=tA.only hT.2.1 c5;have b9:=fun k h1 h2=>PI (s:=s) (d:=d1) (c:=c) (i:=i) (k:=k) h1 h2 (M-i);rw[show i+(M-i)=M by omega]at b9;have bv:=fun k h1 h2=>(lI (s:=s) (d:=d1.goN s c i) (c:=c) (k:=k) h1 h2:(d1.goN s c i).goS s c=_);have S:d1.goN s c (i+1)=(d1.goN s c i).goS s c:=rfl;have D:=R i;obtain⟨k,hk,bp⟩:=cj;replace E:=E.out;generalize d1.goN s c i=di at *;have b4:=hT;obtain⟨⟨x',X,bc⟩,e5,ch⟩:=hT;replace bc:x'.qs=Q:=bc;have bw:di.l.getD c.toNat none=some k:=by have h1:=hk;unfold Wd.kl at h1;rw[jP b7]at h1;exact h1
  have C:∀ Y,jW wr Y->jK 25 #[.pointer (some ⟨Q c.toNat,0,.none⟩)] Y fun e w'=>e= .returned (.bool k.rests)/\w'=Y:=fun Y hb=>by have h1:=sQ ((X.below hb).cl c.toNat k bw);rw[bc]at h1;exact h1
  have b0:∀ Y,jW wr Y->jK 11 #[some g,.agg #[.int .i64 3,c,.int .i64 0,.int .i64 0,.int .i64 0,.float .f64 0]] Y fun e w'=>e= .returned (.int .i64 (di.act s (VA c)).2)/\WdTq (fun q=>q=Q) B (grow F W2 wr) wr w' g s (di.act s (VA c)).1:=fun Y hb=>by refine(KQ (X.below hb) (by have:=hb.size;omega) U (by omega) c cq).mono fun e w' h=>⟨h.1,?_⟩;have h2:=h.2;rw[bc]at h2;exact WdTq.from X ch hb h2
  have e1:=cf.cell;have lA:=cf.lt;have e2:(0:Int)<=(i:Int):=by omega
  replace b0:=hd' b0;by_cases hr:k.job=none
  ·have cb:k.rests=true:=by unfold Kl.rests;rw[hr];rfl
   rw[cb]at C;have b2:Told di c:=bp.elim (fun h=>absurd hr h.1) (fun h=>h.2);have bu:b1=di:=E.trans (b9 k hk hr);have cd:di.tr.length<=100000000:=by have:=U.tr;omega
   have bf:=fun Y (hb:Below wr.heap.size wr Y)=>yg2 (X.below hb) cd c b2;have O:∀ Y,jW wr Y->WdTo B F W Y g s di:=fun Y hb=>T _ _ (b4.below bn (fun j hj=>⟨(y j hj).1,by have:=(y j hj).2;omega⟩) hb).to;obtain⟨le,cv,bk⟩:=hidv (RC di);rw[<-bk]at bf;clear bk;replace bu:=hd' bu;clear E b9 bv S D b4 X U bp hk bw b2 cd hr cb;replace bf:=hd' bf;replace C:=hd' C;replace O:=hd' O;by_cases cy:i<M;all_goals
    have bm:(i:Int)<(M:Int)\/¬ (i:Int)<(M:Int):=by omega
    first
     |(have y:(i:Int)<(M:Int):=by omega)
     |(have y:¬ (i:Int)<(M:Int):=by omega)
    clear bm;go_upto_region 11 with(first|(go_at_call 39;refine(b8 _).mono ?_;rintro r w5 ⟨rfl,V⟩)|(go_at_call 25;(with_reducible refine(C _ V).mono ?_);rintro r w6 ⟨rfl,b3⟩;obtain rfl:=b3.symm)|(go_at_call 26;(with_reducible refine(bf _ V).mono ?_);rintro r w7 ⟨cm,v,rfl,bb,ea,cap,m,rfl,e3,e4,lb,y0,y1,y7⟩));have b1:((m:Int)+1==0)=false:=by rw[beq_eq_false_iff_ne];omega
    have wm:IntKind.i64.wrap (m:Int)=(m:Int):=IntWalk.i64_in _ ⟨by omega,by omega⟩;have ec:IntKind.i64.wrap ((m:Int)+1-1)=(m:Int):=IntWalk.i64_in _ ⟨by omega,by omega⟩ |>.trans (by omega);have e7:(0:Int)<=(m:Int):=by omega
    have e8:(m:Int)<(m:Int)+1:=by omega
    have bh:=xA V cm;go_wp2_with (first|(go_at_call 25;(with_reducible refine(C _ bh).mono ?_);rintro r w6 ⟨rfl,b3⟩;obtain rfl:=b3.symm));go_returns;rw[bu,<- cv];exact⟨rfl,O _ bh⟩
  have c9:k.rests=false:=by
   unfold Kl.rests;rcases hj:k.job with _|j
   ·exact absurd hj hr
   rfl
  rw[c9]at C;have cy:i<M:=by
   rcases Nat.lt_or_ge i M with h1|h1
   ·exact h1
   obtain⟨k',ba,cu⟩:=D h1;rw[hk]at ba;injection ba with ba;exact absurd (ba ▸ cu) hr
  have bm:(i:Int)<(M:Int):=by omega
  have eb:IntKind.i64.wrap ((i:Int)+1)=(i:Int)+1:=IntWalk.i64_in _ ⟨by omega,by omega⟩
  have N:∀ Y,WdTq (fun q=>q=Q) B (grow F W2 wr) wr Y g s (di.act s (VA c)).1->∃ i':Nat,i'<=M/\Value.int .i64 ((i:Int)+1)= .int .i64 i'/\WdTq (fun q=>q=Q) B F W2 Y g s (d1.goN s c i'):=fun Y h=>⟨i+1,by omega,by go_num,by
   rw[S,bv k hk hr]
   exact WdTq.trans b4.to h⟩
  replace N:=hd' N;replace C:=hd' C;clear b4 X U bp E b9 bv S D hk bw hr c9;go_wp2_with (first|(go_at_call 39;refine(b8 _).mono ?_;rintro r w5 ⟨rfl,V⟩)|(go_at_call 25;(with_reducible refine(C _ V).mono ?_);rintro r w6 ⟨rfl,b3⟩;obtain rfl:=b3.symm)|(go_at_call 11;(with_reducible refine(b0 _ V).mono ?_);rintro r w7 ⟨rfl,ck⟩));exact⟨N _ ck,by simp only[intOf];omega⟩
end

end

section

open Go.RowKit

attribute [local go_sem ↓] Go.wp_at_zero Go.wp_at_succ

def tA0:Wd:=ZA sT
def tA1:Wd:=(tA0.act sT ⟨1,0,0,0,0,0⟩).1
def tA2:Wd:=askW sT tA1 0 ⟨1,0,100⟩
def tA3:Wd:=askW sT tA2 0 ⟨1,0,1⟩
def tA4:Wd:=askW sT tA3 0 ⟨2,0,0⟩
theorem tE1:(tA0.act sT ⟨1,0,0,0,0,0⟩).2=0:=by decide +kernel
theorem tE2:(tA1.act sT ⟨2,0,1,0,100,0⟩).2=0:=by decide +kernel
theorem tL2:RC tA2=0:=by decide +kernel
theorem tE3:(tA2.act sT ⟨2,0,1,0,1,0⟩).2=0:=by decide +kernel
theorem tL3:RC tA3=3:=by decide +kernel
theorem tE4:(tA3.act sT ⟨2,0,2,0,0,0⟩).2=0:=by decide +kernel
theorem tL4:RC tA4=0:=by decide +kernel
theorem tF4:(⟨2,1,1,tA4.m.ws⟩:Hp).count.f=128:=by decide +kernel
theorem audT(ws:List Int)(hc:(⟨2,1,1,ws⟩:Hp).count.f=128)(j:∀ x ∈ ws,0<=x/\x<18446744073709551616)(v:Value)(Y:World)(h:RdZ .u64 Y v ws):
  Calls Tryz.prog 37 #[.agg #[.int .i64 2,.int .i64 1,.int .i64 1],v] Y fun e w'=>(∃ a b c:Value,e= .returned (.agg #[.int .i64 128,a,b,c]))/\Below Y.heap.size Y w':=by
 refine(fK ⟨2,1,1,ws⟩ v Y h j).mono fun e w' i=>?_;have h1:=i.1;rw[hc]at h1;exact⟨⟨_,_,_,h1⟩,i.2⟩
theorem yjk{s:Sh}{d:Wd}{n:Nat}(h:wdOk s d n):∀ x ∈ d.m.ws,0<=x/\x<18446744073709551616:=h.fit
attribute [local go_sem ↓] OQ

theorem PQ(W:World):Calls Tryz.prog 8 #[] W fun e w'=>e= .returned (.bool true)/\Below W.heap.size W w':=by
 have o0:=aP (s:=sT) (by decide);have o1:wdOk sT tA1 1:=FG o0 _;have o2:wdOk sT tA2 286:=by have h:=uN (c:=0) (o:=⟨1,0,100⟩) o1;rw[tM]at h;exact h
 have o3:wdOk sT tA3 571:=by have h:=uN (c:=0) (o:=⟨1,0,1⟩) o2;rw[tM]at h;exact h
 have o4:wdOk sT tA4 856:=by have h:=uN (c:=0) (o:=⟨2,0,0⟩) o3;rw[tM]at h;exact h
 have l:∀ Y,jK 10 #[.agg #[.int .i64 2,.int .i64 1,.int .i64 1]] Y fun e w'=>Below Y.heap.size Y w'/\∃ g v x,e= .returned (.tuple #[.pointer (some ⟨g,0,.none⟩),.pointer (some ⟨v,0,.none⟩)])/\WdP Y.heap.size (fun i=>Y.heap.size<=i/\i<w'.heap.size) w' g sT tA0 x:=fun Y=>MU sT Y (by decide);have bm:∀ (p:Nat) (W:World),(binOp .eql 27 (.pointer (some ⟨p,0,.none⟩)) (.pointer none)).run Tryz.prog W= .ok (.bool false) W:=fun p W=>by kernel_rfl
 have I:∀ (B:Nat) (F:Nat->Prop) X g x,WdP B F X g sT tA0 x->B<=X.heap.size->jK 11 #[some g,.agg #[.int .i64 1,.int .i64 0,.int .i64 0,.int .i64 0,.int .i64 0,.float .f64 0]] X fun e w'=>e= .returned (.int .i64 0)/\WdTo B F X w' g sT tA1:=fun B F X g x C E=>by have h:=TO C E o0 (by omega) ⟨1,0,0,0,0,0⟩;rw[tE1]at h;exact h
 have M:∀ (B:Nat) (F:Nat->Prop) X g x,WdP B F X g sT tA1 x->B<=X.heap.size->jK 18 #[some g,.agg #[.int .i64 2,.int .i64 1,.int .i64 1],.int .i64 0,.agg #[.int .i64 1,.int .i64 0,.int .i64 100]] X fun e w'=>e= .returned (.tuple #[.int .i64 0,.bool true])/\WdTo B F X w' g sT tA2:=fun B F X g x C E=>by refine(QI C E o1 (by rw[tM];omega) 0 ⟨1,0,100⟩).mono fun e w' q=>?_;dsimp only at q;rw[jP tE2]at q;rw[<-tL2];exact q
 have N:∀ (B:Nat) (F:Nat->Prop) X g x,WdP B F X g sT tA2 x->B<=X.heap.size->jK 18 #[some g,.agg #[.int .i64 2,.int .i64 1,.int .i64 1],.int .i64 0,.agg #[.int .i64 1,.int .i64 0,.int .i64 1]] X fun e w'=>e= .returned (.tuple #[.int .i64 3,.bool true])/\WdTo B F X w' g sT tA3:=fun B F X g x C E=>by refine(QI C E o2 (by rw[tM];omega) 0 ⟨1,0,1⟩).mono fun e w' q=>?_;dsimp only at q;rw[jP tE3]at q;rw[<-tL3];exact q
 have O:∀ (B:Nat) (F:Nat->Prop) X g x,WdP B F X g sT tA3 x->B<=X.heap.size->jK 18 #[some g,.agg #[.int .i64 2,.int .i64 1,.int .i64 1],.int .i64 0,.agg #[.int .i64 2,.int .i64 0,.int .i64 0]] X fun e w'=>e= .returned (.tuple #[.int .i64 0,.bool true])/\WdTo B F X w' g sT tA4:=fun B F X g x C E=>by refine(QI C E o3 (by rw[tM];omega) 0 ⟨2,0,0⟩).mono fun e w' q=>?_;dsimp only at q;rw[jP tE4]at q;rw[<-tL4];exact q
 have R:∀ (B:Nat) (F:Nat->Prop) X g x,WdP B F X g sT tA4 x->jK 15 #[some g] X fun e w'=>∃ v',e= .returned v'/\Below X.heap.size X w'/\RdZ .u64 w' v' tA4.m.ws:=fun B F X g x C=>(xQ C).mono fun e w' ⟨v,h1,h2,h3⟩=>⟨v,h1,h2,RdS.GC h3⟩
 have j:∀ Y v,RdZ .u64 Y v tA4.m.ws->jK 37 #[.agg #[.int .i64 2,.int .i64 1,.int .i64 1],v] Y fun e w'=>(∃ a b c:Value,e= .returned (.agg #[.int .i64 128,a,b,c]))/\Below Y.heap.size Y w':=fun Y v h=>audT _ tF4 (yjk o4) v Y h;have b2:=(Below.refl W.heap.size W).alloc lr (.cells #[.int .i64 2,.int .i64 1,.int .i64 1] 23);have t0:aA (W.alloc (.cells #[.int .i64 2,.int .i64 1,.int .i64 1] 23)) W.heap.size #[.int .i64 2,.int .i64 1,.int .i64 1] 23:=jA _ _;replace l:=hd' l;replace I:=hd' I;replace M:=hd' M;replace N:=hd' N;replace O:=hd' O;replace R:=hd' R;replace j:=hd' j;clear o0 o1 o2 o3 o4;go_in;go_upto_region 2 with fail;generalize W.alloc (.cells #[.int .i64 2,.int .i64 1,.int .i64 1] 23)=X at *;obtain⟨H,hH,b1⟩:=hidv W.heap.size;rw[<-b1]at t0 ⊢;clear b1;have D:=t0.lt;obtain⟨c0,c1,c2⟩:=ci3 2 1 1 t0.cell;go_upto_region 6 with(first|(go_at_call 10;refine(l _).mono ?_;rintro r w1 ⟨G,g,vv,x0,rfl,b9⟩;have T:=G.size)|(go_at_call 11;(with_reducible refine(I _ _ _ _ _ b9 T).mono ?_);rintro r w2 ⟨rfl,⟨x1,ba⟩,b5,U⟩));have t1:=t0.below G;have bf:¬ (X.heap.size<=H/\H<w1.heap.size):=fun e=>by omega
 have t2:=t1.only b5 bf;have bg:=rH (F:=fun i=>X.heap.size<=i/\i<w1.heap.size) (W':=w2) bf t1.lt;clear c0 c1 c2 D;have D:=t2.lt;obtain⟨c0,c1,c2⟩:=ci3 2 1 1 t2.cell;go_upto_region 7 with(first|(go_at_call 18;refine(M _ _ _ _ _ ba U).mono ?_;rintro r w3 ⟨rfl,⟨x2,bb⟩,b6,V⟩));have t3:=t2.only b6 bg;have bh:=rH (W':=w3) bg t2.lt;clear c0 c1 c2 D;have D:=t3.lt;obtain⟨c0,c1,c2⟩:=ci3 2 1 1 t3.cell;go_upto_region 8 with(first|(go_at_call 18;refine(N _ _ _ _ _ bb V).mono ?_;rintro r w4 ⟨rfl,⟨x3,bc⟩,b7,b0⟩));have t4:=t3.only b7 bh;have bk:=rH (W':=w4) bh t3.lt;clear c0 c1 c2 D;have D:=t4.lt;obtain⟨c0,c1,c2⟩:=ci3 2 1 1 t4.cell;go_upto_region 9 with(first|(go_at_call 18;refine(O _ _ _ _ _ bc b0).mono ?_;rintro r S ⟨rfl,⟨x4,bj⟩,b8,bn⟩));have t5:=t4.only b8 bk;clear c0 c1 c2 D;have D:=t5.lt;obtain⟨c0,c1,c2⟩:=ci3 2 1 1 t5.cell;have b4:Below W.heap.size W S:=b2.trans ((G.trans ((b5.below T (fun i hi=>(b9.lt i hi).1)).trans ((b6.below U (fun i hi=>(ba.lt i hi).1)).trans ((b7.below V (fun i hi=>(bb.lt i hi).1)).trans (b8.below b0 (fun i hi=>(bc.lt i hi).1)))))).mono b2.size);have bi:=b4.size;have y:∀ Z,jW S Z->jK 15 #[some g] Z fun e w'=>∃ v',e= .returned v'/\Below Z.heap.size Z w'/\RdZ .u64 w' v' tA4.m.ws:=fun Z hZ=>R _ _ _ _ _ (bj.below hZ);have hk:∀ Z,jW S Z->Z.cell? ⟨H,0,.none⟩=some (.int .i64 2)/\Z.cell? ⟨H,1,.none⟩=some (.int .i64 1)/\Z.cell? ⟨H,2,.none⟩=some (.int .i64 1):=fun Z hZ=>⟨iA hZ _ _ _ c0,iA hZ _ _ _ c1,iA hZ _ _ _ c2⟩;replace y:=hd' y;replace hk:=hd' hk;have dd:=hd' (Below.refl S.heap.size S).drew
 go_region_held3 (fun Y=>Y.cell? ⟨H,0,.none⟩=some (.int .i64 2)/\Y.cell? ⟨H,1,.none⟩=some (.int .i64 1)/\Y.cell? ⟨H,2,.none⟩=some (.int .i64 1))
  (first|exact hk _ dd.out|exact hk _ (dd.out.trans (z.mono dd.out.size))|exact hk _ ((dd.out.trans (z.mono dd.out.size)).trans (b3.mono (by have:=dd.out.size;have:=z.size;omega))))
  (first|(go_at_call 15;(with_reducible refine(y _ dd.out).mono ?_);rintro r w6 ⟨v,rfl,z,hv⟩)|(go_at_call 37;refine(j _ _ hv).mono ?_;rintro r w7 ⟨⟨a,b,c,rfl⟩,b3⟩))
 go_wp2_with fail;go_returns;have h6:=dd.out.trans (z.mono dd.out.size);exact⟨rfl,b4.trans ((h6.trans (b3.mono h6.size)).mono bi)⟩
end

section

def TW.gone:TW->Prop
 | .dead=> True
 | .owned _=> True
 | _=> False
end

end Go.Proofs.YtkilokkopbajkaaGreat
