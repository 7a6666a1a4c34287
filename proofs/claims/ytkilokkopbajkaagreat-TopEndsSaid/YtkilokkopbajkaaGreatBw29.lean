
import Derived.Test.YtkilokkopbajkaaGreatBw21

set_option linter.all false
set_option maxHeartbeats 4000000
set_option maxRecDepth 100000
namespace Go.Proofs.YtkilokkopbajkaaGreat

open RowKit

attribute [local go_sem ↓] wp_at_zero wp_at_succ

attribute [local go_sem] xE aG

theorem RrO.only{F G:Nat->Prop}{w w':World}{q:Nat}{s:Sh}{t:Rr}(h:RrO F w q s t)(f:Only G w w')(hd:∀k,F k->¬G k):RrO F w' q s t:=by
 obtain⟨p,h1,q1,q2,q3,q4,n,o,i,j,m,y,r,hu,hc⟩:=h;refine⟨λk l=>Nat.lt_of_lt_of_le (p k l) f.size,h1,q1,q2,q3,q4,n,o,i,j,m.only f (hd q h1),λx b=>(y x b).only f (λk l=>hd k (i k l).1),λx b=>(r x b).only f (λk l=>hd k (j k l).1),λx b=>⟨(hu x b).1,(hu x b).2.only f (hd q3 (hu x b).1.1)⟩,λx b=>⟨(hc x b).1,(hc x b).2.only f (hd q4 (hc x b).1.1)⟩⟩
theorem RrO.below{F:Nat->Prop}{w w':World}{q:Nat}{s:Sh}{t:Rr}(h:RrO F w q s t)(hb:Below w.heap.size w w'):RrO F w' q s t:=h.only (Only.of_below (F:=λ_=>False) hb) (λ_ _ e=>e)
theorem RrO.found{F:Nat->Prop}{q:Nat}{s:Sh}{t:Rr}{w:World}(h:RrO F w q s t)(hd:t.done=true->t.err=0->∃r,t.res=some r):
  Calls Tryz.prog 252 #[some q] w λe w'=>e=.returned (gotV (Jb.aga t).took)/\Below w.heap.size w w':=by
 obtain⟨y,h1,q1,q2,q3,q4,o,p,l,m,i,n,z,hu,hc⟩:=h;by_cases j:t.done=true/\t.err=0
 .obtain⟨r,b⟩:=hd j.1 j.2;have e:(Jb.aga t).took=r.got:=by unfold Jb.took;dsimp only;rw[jP j,b]
  rw[e];rw[b]at i;exact ztt q q1 s t r _ _ _ w i (n r b) j.1 j.2
 have e:(Jb.aga t).took=none:=by unfold Jb.took;dsimp only;rw[jN j]
 rw[e];refine zyb q s t _ _ _ _ w i ?_;rcases jB t.done with h1|h1
 .exact .inr (λe=>j ⟨h1,e⟩)
 exact .inl h1
theorem RrO.ygy{F:Nat->Prop}{q:Nat}{s:Sh}{t:Rr}{w:World}(h:RrO F w q s t):
  Calls Tryz.prog 251 #[some q] w λe w'=>e=.returned (.bool (Jb.aga t).gave)/\w'=w:=by
 obtain⟨o,h1,q1,q2,q3,q4,m,n,i,j,b,p,l,hu,hc⟩:=h;unfold Jb.gave;dsimp only;rcases hfr:t.free with _|f
 .rw[hfr]at b;exact zob q s t _ _ _ w b
 rw[hfr]at b;obtain⟨_,r,h3,_⟩:=l f hfr;exact zyg q q2 s t f _ _ _ _ w b h3.row
theorem zze(v:Value)(w:World):
  Calls Tryz.prog 243 #[.agg #[v]] w λe w'=>e=.returned (gotV none)/\Below w.heap.size w w':=by
 have m:=((Below.refl w.heap.size w).alloc lr (.cells #[v] 212)).alloc (by simp) (.cells #[.bool false,.int .i64 0,.int .i64 0,.int .i64 0,.int .i64 0] 234);have j:aA ((w.alloc (.cells #[v] 212)).alloc (.cells #[.bool false,.int .i64 0,.int .i64 0,.int .i64 0,.int .i64 0] 234)) (w.heap.size+1) #[.bool false,.int .i64 0,.int .i64 0,.int .i64 0,.int .i64 0] 234:=by have h:=jA (w.alloc (.cells #[v] 212)) (.cells #[.bool false,.int .i64 0,.int .i64 0,.int .i64 0,.int .i64 0] 234);rw[show (w.alloc (.cells #[v] 212)).heap.size=w.heap.size+1 by simp]at h;exact h
 have b:w.heap.size<=w.heap.size+1:=by omega
 go_in;go_upto_region 1 with fail;generalize (w.alloc (.cells #[v] 212)).alloc (.cells #[.bool false,.int .i64 0,.int .i64 0,.int .i64 0,.int .i64 0] 234)=X at*;obtain⟨E,q,i⟩:∃E,Hid (E=w.heap.size+1)/\E=w.heap.size+1:=⟨_,hd' rfl,rfl⟩;simp only[<-i]at j b|-;clear i;have B:=j.lt;have z:=KA j;have o:=j.cell;go_wp2_with fail;have l:aA (((((X.setCell ⟨E,0,.none⟩ (.bool false)).setCell ⟨E,1,.none⟩ (.int .i64 0)).setCell ⟨E,2,.none⟩ (.int .i64 0)).setCell ⟨E,3,.none⟩ (.int .i64 0)).setCell ⟨E,4,.none⟩ (.int .i64 0)) E #[.bool false,.int .i64 0,.int .i64 0,.int .i64 0,.int .i64 0] 234:=(((((j.set 0 (.bool false)).set 1 (.int .i64 0)).set 2 (.int .i64 0)).set 3 (.int .i64 0)).set 4 (.int .i64 0));have n:Below w.heap.size w (((((X.setCell ⟨E,0,.none⟩ (.bool false)).setCell ⟨E,1,.none⟩ (.int .i64 0)).setCell ⟨E,2,.none⟩ (.int .i64 0)).setCell ⟨E,3,.none⟩ (.int .i64 0)).setCell ⟨E,4,.none⟩ (.int .i64 0)):=(((((m.setCell (p:=⟨E,0,.none⟩) b (.bool false)).setCell (p:=⟨E,1,.none⟩) b (.int .i64 0)).setCell (p:=⟨E,2,.none⟩) b (.int .i64 0)).setCell (p:=⟨E,3,.none⟩) b (.int .i64 0)).setCell (p:=⟨E,4,.none⟩) b (.int .i64 0));generalize ((((X.setCell ⟨E,0,.none⟩ (.bool false)).setCell ⟨E,1,.none⟩ (.int .i64 0)).setCell ⟨E,2,.none⟩ (.int .i64 0)).setCell ⟨E,3,.none⟩ (.int .i64 0)).setCell ⟨E,4,.none⟩ (.int .i64 0)=U at*;have r0:=ce (.bool false) (l.cell 0);have r1:=ci 0 (l.cell 1);have r:=ci 0 (l.cell 2);have s:=ci 0 (l.cell 3);have y:=ci 0 (l.cell 4);exact bodyPost_ret (v:=.tuple #[.agg #[.bool false,.int .i64 0,.int .i64 0,.int .i64 0,.int .i64 0],.bool false]) (by simp[results,Tryz.results243,go_sem,r0,r1,r,s,y]) rfl ⟨rfl,n⟩
theorem zx3(v:Value)(w:World):
  Calls Tryz.prog 265 #[.agg #[v]] w λe w'=>e=.returned (gotV none)/\Below w.heap.size w w':=by
 have m:=((Below.refl w.heap.size w).alloc lr (.cells #[v] 220)).alloc (by simp) (.cells #[.bool false,.int .i64 0,.int .i64 0,.int .i64 0,.int .i64 0] 234);have j:aA ((w.alloc (.cells #[v] 220)).alloc (.cells #[.bool false,.int .i64 0,.int .i64 0,.int .i64 0,.int .i64 0] 234)) (w.heap.size+1) #[.bool false,.int .i64 0,.int .i64 0,.int .i64 0,.int .i64 0] 234:=by have h:=jA (w.alloc (.cells #[v] 220)) (.cells #[.bool false,.int .i64 0,.int .i64 0,.int .i64 0,.int .i64 0] 234);rw[show (w.alloc (.cells #[v] 220)).heap.size=w.heap.size+1 by simp]at h;exact h
 have b:w.heap.size<=w.heap.size+1:=by omega
 go_in;go_upto_region 1 with fail;generalize (w.alloc (.cells #[v] 220)).alloc (.cells #[.bool false,.int .i64 0,.int .i64 0,.int .i64 0,.int .i64 0] 234)=X at*;obtain⟨E,q,i⟩:∃E,Hid (E=w.heap.size+1)/\E=w.heap.size+1:=⟨_,hd' rfl,rfl⟩;simp only[<-i]at j b|-;clear i;have B:=j.lt;have z:=KA j;have o:=j.cell;go_wp2_with fail;have l:aA (((((X.setCell ⟨E,0,.none⟩ (.bool false)).setCell ⟨E,1,.none⟩ (.int .i64 0)).setCell ⟨E,2,.none⟩ (.int .i64 0)).setCell ⟨E,3,.none⟩ (.int .i64 0)).setCell ⟨E,4,.none⟩ (.int .i64 0)) E #[.bool false,.int .i64 0,.int .i64 0,.int .i64 0,.int .i64 0] 234:=(((((j.set 0 (.bool false)).set 1 (.int .i64 0)).set 2 (.int .i64 0)).set 3 (.int .i64 0)).set 4 (.int .i64 0));have n:Below w.heap.size w (((((X.setCell ⟨E,0,.none⟩ (.bool false)).setCell ⟨E,1,.none⟩ (.int .i64 0)).setCell ⟨E,2,.none⟩ (.int .i64 0)).setCell ⟨E,3,.none⟩ (.int .i64 0)).setCell ⟨E,4,.none⟩ (.int .i64 0)):=(((((m.setCell (p:=⟨E,0,.none⟩) b (.bool false)).setCell (p:=⟨E,1,.none⟩) b (.int .i64 0)).setCell (p:=⟨E,2,.none⟩) b (.int .i64 0)).setCell (p:=⟨E,3,.none⟩) b (.int .i64 0)).setCell (p:=⟨E,4,.none⟩) b (.int .i64 0));generalize ((((X.setCell ⟨E,0,.none⟩ (.bool false)).setCell ⟨E,1,.none⟩ (.int .i64 0)).setCell ⟨E,2,.none⟩ (.int .i64 0)).setCell ⟨E,3,.none⟩ (.int .i64 0)).setCell ⟨E,4,.none⟩ (.int .i64 0)=U at*;have r0:=ce (.bool false) (l.cell 0);have r1:=ci 0 (l.cell 1);have r:=ci 0 (l.cell 2);have s:=ci 0 (l.cell 3);have y:=ci 0 (l.cell 4);exact bodyPost_ret (v:=.tuple #[.agg #[.bool false,.int .i64 0,.int .i64 0,.int .i64 0,.int .i64 0],.bool false]) (by simp[results,Tryz.results265,go_sem,r0,r1,r,s,y]) rfl ⟨rfl,n⟩
theorem zyz{F:Nat->Prop}{q:Nat}{s:Sh}{t:Rr}{w:World}(h:RrO F w q s t):
  Calls Tryz.prog 248 #[.agg #[some q]] w λe w'=>e=.returned (.bool (Jb.aga t).gave)/\Below w.heap.size w w':=by
 have i:=(Below.refl w.heap.size w).alloc lr (.cells #[some q] 216);have t0:=jA w (.cells #[some q] 216);have o:q<w.heap.size:=h.1 q h.2.1;go_in;go_upto_region 1 with fail;generalize w.alloc (.cells #[some q] 216)=X at*;have j:=(h.below i).ygy;replace j:=hd' j;obtain⟨H,n,b⟩:=hidv w.heap.size;rw[<-b]at t0|-;clear b;have p:H<X.heap.size:=(jE t0);have m:=iA t0;clear h t0;go_wp2_with (go_at_call 251;(with_reducible refine j.out.mono ?_);rintro r y ⟨rfl,l⟩;obtain rfl:=l.symm);go_returns;exact⟨rfl,i⟩
theorem zy9(v:Value)(w:World):
  Calls Tryz.prog 264 #[.agg #[v]] w λe w'=>e=.returned (.bool false)/\Below w.heap.size w w':=by
 have b:=(Below.refl w.heap.size w).alloc lr (.cells #[v] 220);go_in;go_wp2_with fail;go_returns;exact⟨rfl,b⟩
theorem zzp{F:Nat->Prop}{q:Nat}{s:Sh}{t:Rr}{w:World}(h:RrO F w q s t)(hd:t.done=true->t.err=0->∃r,t.res=some r):
  Calls Tryz.prog 249 #[.agg #[some q]] w λe w'=>e=.returned (gotV (Jb.aga t).took)/\Below w.heap.size w w':=by
 have C:=((Below.refl w.heap.size w).alloc lr (.cells #[some q] 216)).alloc (by simp) (.cells #[.bool false,.int .i64 0,.int .i64 0,.int .i64 0,.int .i64 0] 234);have M:aA ((w.alloc (.cells #[some q] 216)).alloc (.cells #[.bool false,.int .i64 0,.int .i64 0,.int .i64 0,.int .i64 0] 234)) (w.heap.size+1) #[.bool false,.int .i64 0,.int .i64 0,.int .i64 0,.int .i64 0] 234:=by have h:=jA (w.alloc (.cells #[some q] 216)) (.cells #[.bool false,.int .i64 0,.int .i64 0,.int .i64 0,.int .i64 0] 234);rw[show (w.alloc (.cells #[some q] 216)).heap.size=w.heap.size+1 by simp]at h;exact h
 have I:aA ((w.alloc (.cells #[some q] 216)).alloc (.cells #[.bool false,.int .i64 0,.int .i64 0,.int .i64 0,.int .i64 0] 234)) w.heap.size #[some q] 216:=aA.alloc (jA _ _) _;have i:=(h.below C).found hd;unfold gotV at i|-;generalize (Jb.aga t).took.getD Blk.zero=R at*;generalize (Jb.aga t).took.isSome=G at*;obtain⟨bl,n,o,l,m⟩:=R;dsimp only[aG]at i|-;clear h hd;go_in;go_upto_region 1 with fail;generalize (w.alloc (.cells #[some q] 216)).alloc (.cells #[.bool false,.int .i64 0,.int .i64 0,.int .i64 0,.int .i64 0] 234)=X at*;obtain⟨E,S,y⟩:∃E,Hid (E=w.heap.size+1)/\E=w.heap.size+1:=⟨_,hd' rfl,rfl⟩;simp only[<-y]at M|-;have b:w.heap.size<=E:=by omega
 clear y;obtain⟨H,T,z⟩:=hidv w.heap.size;rw[<-z]at I|-;clear z;have lH:H<X.heap.size:=I.lt;have N:=I.cell;replace i:=hd' i;go_wp2_with (go_at_call 252;(with_reducible refine i.out.mono ?_);rintro r L ⟨rfl,D⟩;have j:=M.below D;have O:=j.cell;have ef:=KA j;have lE:=j.lt);have B:aA (((((L.setCell ⟨E,0,.none⟩ (.bool bl)).setCell ⟨E,1,.none⟩ (.int .i64 n)).setCell ⟨E,2,.none⟩ (.int .i64 o)).setCell ⟨E,3,.none⟩ (.int .i64 l)).setCell ⟨E,4,.none⟩ (.int .i64 m)) E #[bl,n,o,l,m] 234:=(((((j.set 0 (.bool bl)).set 1 (.int .i64 n)).set 2 (.int .i64 o)).set 3 (.int .i64 l)).set 4 (.int .i64 m));have J:Below w.heap.size w (((((L.setCell ⟨E,0,.none⟩ (.bool bl)).setCell ⟨E,1,.none⟩ (.int .i64 n)).setCell ⟨E,2,.none⟩ (.int .i64 o)).setCell ⟨E,3,.none⟩ (.int .i64 l)).setCell ⟨E,4,.none⟩ (.int .i64 m)):=((((((qA C D).setCell (p:=⟨E,0,.none⟩) b (.bool bl)).setCell (p:=⟨E,1,.none⟩) b (.int .i64 n)).setCell (p:=⟨E,2,.none⟩) b (.int .i64 o)).setCell (p:=⟨E,3,.none⟩) b (.int .i64 l)).setCell (p:=⟨E,4,.none⟩) b (.int .i64 m));generalize ((((L.setCell ⟨E,0,.none⟩ (.bool bl)).setCell ⟨E,1,.none⟩ (.int .i64 n)).setCell ⟨E,2,.none⟩ (.int .i64 o)).setCell ⟨E,3,.none⟩ (.int .i64 l)).setCell ⟨E,4,.none⟩ (.int .i64 m)=U at*;have r0:=ce (.bool bl) (B.cell 0);have r1:=ci n (B.cell 1);have V:=ci o (B.cell 2);have Y:=ci l (B.cell 3);have Z:=ci m (B.cell 4);exact bodyPost_ret (v:=.tuple #[.agg #[bl,n,o,l,m],G]) (by simp[results,Tryz.results249,go_sem,r0,r1,V,Y,Z]) rfl ⟨rfl,J⟩
def QG (s:Sh) (cl:Int) (v1 v2:Value):Array Value:=#[v1,v2,s.p,s.c,s.m,cl]
attribute [local go_sem] QG

def MalO (F:Nat->Prop) (w:World) (q:Nat) (s:Sh) (cl:Int) (r:Rs) (c:Option Cm):Prop:=
 (∀k,F k->k<w.heap.size)/\F q/\∃q1 q2 F1,(∀k,F1 k->F k/\k≠q)/\aA w q (QG s cl (.pointer (some ⟨q1,0,.none⟩)) (ptrV c q2)) 208/\RsO F1 w q1 s r/\
  (∀x,c=some x->(F q2/\q2≠q/\¬F1 q2)/\aA w q2 (xE s x) 276)
theorem MalO.only{F G:Nat->Prop}{w w':World}{q:Nat}{s:Sh}{cl:Int}{r:Rs}{c:Option Cm}(h:MalO F w q s cl r c)(i:Only G w w')(hd:∀k,F k->¬G k):MalO F w' q s cl r c:=by
 obtain⟨n,h1,q1,q2,m,b,f,o,hc⟩:=h;exact⟨λk j=>Nat.lt_of_lt_of_le (n k j) i.size,h1,q1,q2,m,b,f.only i (hd q h1),o.only i (λk j=>hd k (b k j).1),λx l=>⟨(hc x l).1,(hc x l).2.only i (hd q2 (hc x l).1.1)⟩⟩
theorem uT{q2:Nat}{s:Sh}{c:Option Cm}{w:World}(h:∀x,c=some x->aA w q2 (xE s x) 276):Calls Tryz.prog 160 #[ptrV c q2] w λe w'=>e=.returned (.bool (RC c))/\w'=w:=by
 rcases c with _|u
 .exact yU w
 exact uV q2 _ u.done w (h u rfl) rfl
theorem zvm{F:Nat->Prop}{q:Nat}{s:Sh}{cl:Int}{r:Rs}{c:Option Cm}{w:World}(h:MalO F w q s cl r c):
  Calls Tryz.prog 209 #[some q] w λe w'=>e=.returned (.bool (Jb.mal r c).done)/\Below w.heap.size w w':=by
 obtain⟨R,h1,q1,q2,Z,G,j,H,hc⟩:=h;have C:q<w.heap.size:=R q h1;have D:=j.cell;have l:=hd' (LI H);have B:=hd' (λY (p:Below w.heap.size w Y)=>YL (H.bel p));have z:=hd' (λY (p:Below w.heap.size w Y)=>uT (λx V=>((hc x V).2.below p)));have S:=hd' (λY (p:Below w.heap.size w Y)=>(⟨(j.below p).cell 0,(j.below p).cell 1⟩:Y.cell? ⟨q,0,.none⟩=some (.pointer (some ⟨q1,0,.none⟩))/\Y.cell? ⟨q,1,.none⟩=some (ptrV c q2)));have n:(Jb.mal r c).done=(r.done&&(!r.got.isSome||RC c)):=rfl;rw[n];clear h1 R G j H hc n;obtain⟨⟨bl,N,O,L,M⟩,hb⟩:∃b,b=r.got.getD Blk.zero:=⟨_,rfl⟩;unfold gotV at l;rw[<-hb]at l;dsimp only[aG]at l;clear hb;generalize r.got.isSome=J at*;generalize r.done=rd at*;generalize RC c=ce at*;generalize ptrV c q2=pv at*;go_in;go_upto_region 2 with(go_at_call 158;(with_reducible refine l.out.mono ?_);rintro r T ⟨rfl,y⟩);have i:=y.trans ((Below.refl w.heap.size T).alloc y.size (.cells #[bl,N,O,L,M] 234));generalize T.alloc (.cells #[bl,N,O,L,M] 234)=X at*;have o:=hd' (B X i);have E:=hd' (z X i);obtain⟨k0,k1⟩:=S X i;have lX:q<X.heap.size:=Nat.lt_of_lt_of_le C i.size;clear B z l D C S;cases rd;case false=>go_wp2_with (go_at_call 161;(with_reducible refine o.out.mono ?_);rintro r U ⟨rfl,m⟩;obtain rfl:=m.symm);go_returns;exact⟨rfl,i⟩
 case true=>
  cases J;case false=>go_wp2_with (go_at_call 161;(with_reducible refine o.out.mono ?_);rintro r U ⟨rfl,m⟩;obtain rfl:=m.symm);go_returns;exact⟨rfl,i⟩
  case true=>cases ce;all_goals go_wp2_with (first|(go_at_call 161;(with_reducible refine o.out.mono ?_);rintro r U ⟨rfl,m⟩;obtain rfl:=m.symm)|(go_at_call 160;(with_reducible refine E.out.mono ?_);rintro r w3 ⟨rfl,I⟩;obtain rfl:=I.symm));go_returns;exact⟨rfl,i⟩
theorem zy3{F:Nat->Prop}{q:Nat}{s:Sh}{cl:Int}{r:Rs}{c:Option Cm}{w:World}(h:MalO F w q s cl r c):
  Calls Tryz.prog 211 #[some q] w λe w'=>e=.returned (.int .i64 (Jb.mal r c).err)/\Below w.heap.size w w':=by
 obtain⟨D,h1,q1,q2,J,n,l,E,hc⟩:=h;have I:q<w.heap.size:=D q h1;have H:=l.cell;have i:=hd' (LI E);have j:(Jb.mal r c).err=if r.got.isSome=true then 0 else 3:=rfl;rw[j];clear h1 D n l E hc j;obtain⟨⟨bl,B,C,y,z⟩,hb⟩:∃b,b=r.got.getD Blk.zero:=⟨_,rfl⟩;unfold gotV at i;rw[<-hb]at i;dsimp only[aG]at i;clear hb;generalize r.got.isSome=p at*;go_in;go_upto_region 2 with(go_at_call 158;(with_reducible refine i.out.mono ?_);rintro r G ⟨rfl,m⟩);have o:=m.trans ((Below.refl w.heap.size G).alloc m.size (.cells #[bl,B,C,y,z] 234));generalize G.alloc (.cells #[bl,B,C,y,z] 234)=X at*;cases p;all_goals go_wp2_with fail;go_returns;exact⟨rfl,o⟩
theorem ztz(v:Value)(w:World):
  Calls Tryz.prog 212 #[v] w λe w'=>e=.returned (.bool false)/\w'=w:=by
 go_in;go_wp2_with fail;go_returns;exact⟨rfl,rfl⟩
theorem zux{F:Nat->Prop}{q:Nat}{s:Sh}{cl:Int}{r:Rs}{c:Option Cm}{w:World}(h:MalO F w q s cl r c):
  Calls Tryz.prog 213 #[some q] w λe w'=>e=.returned (gotV (Jb.mal r c).took)/\Below w.heap.size w w':=by
 obtain⟨l,h1,q1,q2,F1,b8,J,hr,hc⟩:=h;have b3:q<w.heap.size:=l q h1;have I:=hd' (λY (hY:Below w.heap.size w Y)=>LI (hr.bel hY));have b7:=hd' (λY (hY:Below w.heap.size w Y)=>uT (λx hx=>((hc x hx).2.below hY)));have hk:=hd' (λY (hY:Below w.heap.size w Y)=>(⟨(J.below hY).cell 0,(J.below hY).cell 1⟩:Y.cell? ⟨q,0,.none⟩=some (.pointer (some ⟨q1,0,.none⟩))/\Y.cell? ⟨q,1,.none⟩=some (ptrV c q2)));have V:(Jb.mal r c).took=if RC c=true then r.got else none:=rfl;obtain⟨tk,m,Z⟩:∃t,Hid (t=(Jb.mal r c).took)/\t=(Jb.mal r c).took:=⟨_,hd' rfl,rfl⟩;rw[<-Z];clear Z;rw[V]at m;clear h1 l b8 J hr hc V;obtain⟨⟨bl,z,B,n,y⟩,hb⟩:∃b,b=r.got.getD Blk.zero:=⟨_,rfl⟩;obtain⟨b5,j⟩:∃o,o=r.got.isSome:=⟨_,rfl⟩;have M:(b5=false/\gotV tk=.tuple #[.agg #[.bool false,.int .i64 0,.int .i64 0,.int .i64 0,.int .i64 0],.bool false])\/(b5=true/\RC c=false/\gotV tk=.tuple #[.agg #[.bool false,.int .i64 0,.int .i64 0,.int .i64 0,.int .i64 0],.bool false])\/(b5=true/\RC c=true/\gotV tk=.tuple #[.agg #[bl,z,B,n,y],.bool true]):=by
  rcases hg:r.got with _|⟨gl,gp,gs,gk,gn⟩
  .rw[hg]at m j;exact .inl ⟨j,by rw[m];split<;>rfl⟩
  rw[hg]at m j hb;have ba:(⟨bl,z,B,n,y⟩:Blk)=⟨gl,gp,gs,gk,gn⟩:=hb;cases hce:RC c
  .exact .inr (.inl ⟨j,rfl,by rw[m,hce];rfl⟩)
  exact .inr (.inr ⟨j,rfl,by rw[m,hce,jP rfl,<- ba];rfl⟩)
 unfold gotV at I;rw[<-hb,<- j]at I;dsimp only[aG]at I;clear hb j m;generalize RC c=bg at*;generalize ptrV c q2=pv at*;have D:=(Below.refl w.heap.size w).alloc lr (.cells #[.bool false,.int .i64 0,.int .i64 0,.int .i64 0,.int .i64 0] 234);have hE:aA (w.alloc (.cells #[.bool false,.int .i64 0,.int .i64 0,.int .i64 0,.int .i64 0] 234)) w.heap.size #[.bool false,.int .i64 0,.int .i64 0,.int .i64 0,.int .i64 0] 234:=jA _ _;go_in;go_upto_region 1 with fail;generalize w.alloc (.cells #[.bool false,.int .i64 0,.int .i64 0,.int .i64 0,.int .i64 0] 234)=X0 at*;obtain⟨E,bh,R⟩:=hidv w.heap.size;rw[<-R]at hE|-;have C:w.heap.size<=E:=by omega
 have bj:q≠E:=by omega
 clear R;obtain⟨k0,k1⟩:=hk X0 D;have bb:q<X0.heap.size:=Nat.lt_of_lt_of_le b3 D.size;have T:=hd' (I X0 D);go_upto_region 2 with(go_at_call 158;(with_reducible refine T.out.mono ?_);rintro r w1 ⟨rfl,b1⟩);have b0:=hE.below b1;have b2:=qA D b1;have O:=b2.trans ((Below.refl w.heap.size w1).alloc b2.size (.cells #[bl,z,B,n,y] 234));have N:=b0.alloc (.cells #[bl,z,B,n,y] 234);have hG:aA (w1.alloc (.cells #[bl,z,B,n,y] 234)) w1.heap.size #[bl,z,B,n,y] 234:=jA _ _;have b9:w1.heap.size≠E:=λe=>by have:=b0.lt;omega
 generalize w1.alloc (.cells #[bl,z,B,n,y] 234)=X at*;obtain⟨G,bi,S⟩:=hidv w1.heap.size;rw[<-S]at hG b9|-;clear S k0 k1 bb;have b6:=hd' (b7 X O);obtain⟨k0,k1⟩:=hk X O;have lX:q<X.heap.size:=Nat.lt_of_lt_of_le b3 O.size;have lE:E<X.heap.size:=N.lt;have lG:G<X.heap.size:=hG.lt;have fE:=KA N;have bc:=N.cell;have bf:=hG.cell;clear b7 I T b3 hk D b1 hE b0 b2;replace M:=hd' M;have i:∀(U:World) (x0:Bool) (x1 x2 x3 x4:Int),U=(((((X.setCell ⟨E,0,.none⟩ (.bool x0)).setCell ⟨E,1,.none⟩ (.int .i64 x1)).setCell ⟨E,2,.none⟩ (.int .i64 x2)).setCell ⟨E,3,.none⟩ (.int .i64 x3)).setCell ⟨E,4,.none⟩ (.int .i64 x4))->aA U E #[x0,x1,x2,x3,x4] 234/\Below w.heap.size w U:=λU x0 x1 x2 x3 x4 hU=>by subst hU;exact⟨(((((N.set 0 (.bool x0)).set 1 (.int .i64 x1)).set 2 (.int .i64 x2)).set 3 (.int .i64 x3)).set 4 (.int .i64 x4)),(((((O.setCell (p:=⟨E,0,.none⟩) C (.bool x0)).setCell (p:=⟨E,1,.none⟩) C (.int .i64 x1)).setCell (p:=⟨E,2,.none⟩) C (.int .i64 x2)).setCell (p:=⟨E,3,.none⟩) C (.int .i64 x3)).setCell (p:=⟨E,4,.none⟩) C (.int .i64 x4))⟩
 replace i:=hd' i;rcases M.out with⟨rfl,L⟩|⟨rfl,rfl,L⟩|⟨rfl,rfl,L⟩;case inl=>replace L:=hd' L;go_wp2_with fail;obtain⟨l,H⟩:=i _ _ _ _ _ _ rfl;generalize ((((X.setCell ⟨E,0,.none⟩ (.bool false)).setCell ⟨E,1,.none⟩ (.int .i64 0)).setCell ⟨E,2,.none⟩ (.int .i64 0)).setCell ⟨E,3,.none⟩ (.int .i64 0)).setCell ⟨E,4,.none⟩ (.int .i64 0)=U at*;have r0:=ce (.bool false) (l.cell 0);have r1:=ci 0 (l.cell 1);have r2:=ci 0 (l.cell 2);have r3:=ci 0 (l.cell 3);have r4:=ci 0 (l.cell 4);exact bodyPost_ret (v:=.tuple #[.agg #[.bool false,.int .i64 0,.int .i64 0,.int .i64 0,.int .i64 0],.bool false]) (by simp[results,Tryz.results213,go_sem,r0,r1,r2,r3,r4]) rfl ⟨by rw[L],H⟩
 case inr.inl=>replace L:=hd' L;go_wp2_with (go_at_call 160;(with_reducible refine b6.out.mono ?_);rintro r w3 ⟨rfl,b4⟩;obtain rfl:=b4.symm);obtain⟨l,H⟩:=i _ _ _ _ _ _ rfl;generalize ((((X.setCell ⟨E,0,.none⟩ (.bool false)).setCell ⟨E,1,.none⟩ (.int .i64 0)).setCell ⟨E,2,.none⟩ (.int .i64 0)).setCell ⟨E,3,.none⟩ (.int .i64 0)).setCell ⟨E,4,.none⟩ (.int .i64 0)=U at*;have r0:=ce (.bool false) (l.cell 0);have r1:=ci 0 (l.cell 1);have r2:=ci 0 (l.cell 2);have r3:=ci 0 (l.cell 3);have r4:=ci 0 (l.cell 4);exact bodyPost_ret (v:=.tuple #[.agg #[.bool false,.int .i64 0,.int .i64 0,.int .i64 0,.int .i64 0],.bool false]) (by simp[results,Tryz.results213,go_sem,r0,r1,r2,r3,r4]) rfl ⟨by rw[L],H⟩
 case inr.inr=>replace L:=hd' L;go_wp2_with (go_at_call 160;(with_reducible refine b6.out.mono ?_);rintro r w3 ⟨rfl,b4⟩;obtain rfl:=b4.symm);obtain⟨l,H⟩:=i _ bl z B n y rfl;generalize ((((X.setCell ⟨E,0,.none⟩ (.bool bl)).setCell ⟨E,1,.none⟩ (.int .i64 z)).setCell ⟨E,2,.none⟩ (.int .i64 B)).setCell ⟨E,3,.none⟩ (.int .i64 n)).setCell ⟨E,4,.none⟩ (.int .i64 y)=U at*;have r0:=ce (.bool bl) (l.cell 0);have r1:=ci z (l.cell 1);have r2:=ci B (l.cell 2);have r3:=ci n (l.cell 3);have r4:=ci y (l.cell 4);exact bodyPost_ret (v:=.tuple #[.agg #[bl,z,B,n,y],.bool true]) (by simp[results,Tryz.results213,go_sem,r0,r1,r2,r3,r4]) rfl ⟨by rw[L],H⟩
theorem MalO.BQ{F:Nat->Prop}{q p b:Nat}{s:Sh}{cl:Int}{r:Rs}{c:Option Cm}{m:Mem}{w:World}(h:MalO F w q s cl r c)(O:oA w p b m)(C:¬F p)(hb:¬F b)(L:Fits s m)(M:(∀x,r.seeker=some x->skOk s x)/\(∀x,r.runner=some x->rnOk s x))(hs:m.st<1000000000):
  ∃q1,w.cell? ⟨q,0,.none⟩=some (.pointer (some ⟨q1,0,.none⟩))/\(Calls Tryz.prog 161 #[.pointer (some ⟨q1,0,.none⟩)] w λe w'=>e=.returned (.bool r.done)/\w'=w)/\
   Calls Tryz.prog 214 #[some q1,some p] w λe w'=>cC F p b w w' e (CB s r m).2/\MalO (grow F w w') w' q s cl (CB s r m).1 c:=by
 obtain⟨z,h1,q1,q2,o,i,l,G,hc⟩:=h;refine⟨q1,l.cell 0,YL G,(pV G O (λe=>C (i p e).1) (λe=>hb (i b e).1) L M hs).mono λe w' hS=>?_⟩;obtain⟨t,J⟩:=hS;have D:=t.only.size;have N:¬(o q\/q=p\/q=b):=by
  rintro(e|e|e)
  .exact(i q e).2 rfl
  .exact C (e▸h1)
  exact hb (e▸h1)
 have y:∀k,F k->¬o k->¬(o k\/k=p\/k=b):=λk j n e=>by
  rcases e with e|e|e
  .exact n e
  .exact C (e▸j)
  exact hb (e▸j)
 have B:∀k,F k->¬o k->¬grow o w w' k:=λk j n e=>by
  rcases e with e|e
  .exact n e
  have:=z k j;omega
 refine⟨⟨t.ret,t.wds,t.only.weak λk j=>j.imp (λe=>(i k e).1) id⟩,ME z D,.inl h1,q1,q2,grow o w w',λk j=>?_,l.only t.only N,J,?_⟩
 .rcases j with j|j
  .exact⟨.inl (i k j).1,(i k j).2⟩
  exact⟨.inr j,λe=>by have:=z q h1;omega⟩
 intro x R;obtain⟨⟨a1,H,E⟩,I⟩:=hc x R;exact⟨⟨.inl a1,H,B _ a1 E⟩,I.only t.only (y _ a1 E)⟩
theorem zt8{F:Nat->Prop}{q p b:Nat}{s:Sh}{cl:Int}{r:Rs}{c:Option Cm}{m:Mem}{w:World}(h:MalO F w q s cl r c)(hw:oA w p b m)(hp:¬F p)(hb:¬F b)(hf:Fits s m)(ho:(∀x,r.seeker=some x->skOk s x)/\(∀x,r.runner=some x->rnOk s x))(hs:m.st<1000000000)(b8:r.done=false\/(r.done=true/\c=none/\∃b,r.got=some b)):
  Calls Tryz.prog 210 #[some q,some p] w λe w'=>cC F p b w w' e (Jb.step s cl m (.mal r c)).2/\∃r' c',(Jb.step s cl m (.mal r c)).1=.mal r' c'/\MalO (grow F w w') w' q s cl r' c':=by
 obtain⟨q1,c0,B,b1⟩:=h.BQ hw hp hb hf ho hs;rcases b8 with j|⟨j,rfl,⟨bl,y,z,n,o⟩,hg⟩
 .have hr:Jb.step s cl m (.mal r c)=(.mal (CB s r m).1 c,(CB s r m).2):=by unfold Jb.step;dsimp only;rw[jP j]
  rw[hr];rw[j]at B;replace B:=hd' B;replace b1:=hd' b1;have i:∀(e:Ending) (N:World),cC F p b w N e (CB s r m).2/\MalO (grow F w N) N q s cl (CB s r m).1 c->cC F p b w N e (CB s r m).2/\∃r' c',(Jb.mal (CB s r m).1 c,(CB s r m).2).1=.mal r' c'/\MalO (grow F w N) N q s cl r' c':=λe N S=>⟨S.1,_,_,rfl,S.2⟩;replace i:=hd' i;dsimp only at i|-;have lq:q<w.heap.size:=h.1 q h.2.1;clear h hr hw hp hb hf ho hs j;go_in;go_wp2_with (first|(go_at_call 161;(with_reducible refine B.out.mono ?_);rintro r w2 ⟨rfl,bc⟩;obtain rfl:=bc.symm)|(go_at_call 214;(with_reducible refine b1.out.mono ?_);rintro r N hS;obtain rfl:=hS.1.ret));go_returns;exact i _ _ hS
 have hr:Jb.step s cl m (.mal r none)=(.mal r (some (GB s (zB s cl ⟨bl,y,z,n,o⟩) m).1),(GB s (zB s cl ⟨bl,y,z,n,o⟩) m).2):=by
  unfold Jb.step;dsimp only;rw[jN (by rw[j];decide)];have:FF s cl r none=some (zB s cl ⟨bl,y,z,n,o⟩):=by unfold FF;rw[hg]
  rw[this]
 rw[hr];rw[j]at B;replace B:=hd' B;clear b1 hr;obtain⟨hF,h1,D,q2,F1,I,b4,bb,_⟩:=h;have bx:D=q1:=by have:=(b4.cell 0).symm.trans c0;simpa[QG] using this
 subst bx;have lq:q<w.heap.size:=hF q h1;have L:=LI bb;rw[hg]at L;replace L:jK 158 #[some D] w λe w'=>e=.returned (.tuple #[.agg #[bl,y,z,n,o],.bool true])/\Below w.heap.size w w':=L;replace L:=hd' L;have gn:=λW=>jX s cl ⟨bl,y,z,n,o⟩ W;dsimp only at gn;have b0:=λY l (hY:aA Y l (xE s (zB s cl ⟨bl,y,z,n,o⟩)) 276) (cc:oA Y p b m) (c4:l≠p) (bz:l≠b)=>IV l p b s (zB s cl ⟨bl,y,z,n,o⟩) m Y hY cc c4 bz hf (jQ _ _ _) hs;have cm:=hw.ltp;have cj:=hw.ltb;have bq:q≠p:=λe=>hp (e▸h1);have bm:q≠b:=λe=>hb (e▸h1)
 have i:∀(w4 H:World) (e:Ending) (l:Nat),jW w w4->w4.heap.size<=H.heap.size->aA H q (QG s cl (.pointer (some ⟨D,0,.none⟩)) (.pointer (some ⟨l,0,.none⟩))) 208->w.heap.size<=l->aA H l (xE s (GB s (zB s cl ⟨bl,y,z,n,o⟩) m).1) 276->oA H p b (GB s (zB s cl ⟨bl,y,z,n,o⟩) m).2->Only (λk=>k=q\/k=p\/k=b) w H->
   cC F p b w H (.returned (.tuple #[])) (GB s (zB s cl ⟨bl,y,z,n,o⟩) m).2/\∃r' c',Jb.mal r (some (GB s (zB s cl ⟨bl,y,z,n,o⟩) m).1)=.mal r' c'/\MalO (grow F w H) H q s cl r' c':=λw4 H e l ch cp C bh bg bf b9=>by
  have bu:=b9.size
  refine⟨⟨rfl,bf,b9.weak λk M=>?_⟩,_,_,rfl,ME hF bu,.inl h1,D,l,F1,λk M=>⟨.inl (I k M).1,(I k M).2⟩,C,bb.only b9 (λk M S=>?_),λx hx=>?_⟩
  .rcases M with rfl|M|M
   .exact .inl h1
   .exact .inr (.inl M)
   .exact .inr (.inr M)
  .rcases S with rfl|rfl|rfl
   .exact(I _ M).2 rfl
   .exact hp (I _ M).1
   .exact hb (I _ M).1
  .injection hx with hx
   subst hx
   exact⟨⟨.inr ⟨bh,bg.lt⟩,λe=>by omega,λe=>by have:=hF _ (I _ e).1;omega⟩,bg⟩
 generalize GB s (zB s cl ⟨bl,y,z,n,o⟩) m=cf at*;generalize zB s cl ⟨bl,y,z,n,o⟩=cd at*;replace b0:=hd' b0;replace i:=hd' i;dsimp only at i|-;obtain⟨sp,sc,sm⟩:=s;dsimp only at gn;replace gn:=hd' gn;clear hp hb hf ho hs j hg hF h1 I bb;go_in;go_upto_region 3 with(first|(go_at_call 161;(with_reducible refine B.out.mono ?_);rintro r w2 ⟨rfl,bc⟩;obtain rfl:=bc.symm)|(go_at_call 158;(with_reducible refine L.out.mono ?_);rintro r N ⟨rfl,U⟩));have b7:=U.trans ((Below.refl w.heap.size N).alloc U.size (.cells #[bl,y,z,n,o] 234));have b6:aA (N.alloc (.cells #[bl,y,z,n,o] 234)) N.heap.size #[bl,y,z,n,o] 234:=jA _ _;have c6:w.heap.size<=N.heap.size:=U.size;generalize N.alloc (.cells #[bl,y,z,n,o] 234)=X at*;obtain⟨E,c5,b2⟩:=hidv N.heap.size;simp only[<-b2]at b6 c6|-;have cb:q≠E:=by omega
 clear b2 c5 U c0 L B;have R:aA X q (QG ⟨sp,sc,sm⟩ cl (.pointer (some ⟨D,0,.none⟩)) (.pointer none)) 208:=b4.below b7;have bv:=hw.below b7;have lX:q<X.heap.size:=R.lt;have x0:=ce (.pointer (some ⟨D,0,.none⟩)) (R.cell 0);have x1:=ce (.pointer none) (R.cell 1);go_upto_region 4 with fail;have j:=R.drew;have T:=b6.drew;have bw:=bv.drew;have V:=b7.drew;clear x0 x1 lX;have lX:q<X.drew.heap.size:=j.lt;have lE:E<X.drew.heap.size:=T.lt;have hS:=hd' (λ(Y:World) (v:Value) (h:aA Y q (QG ⟨sp,sc,sm⟩ cl (.pointer (some ⟨D,0,.none⟩)) v) 208) (h2:aA Y E #[bl,y,z,n,o] 234)=>(⟨h.cell 2,h.cell 3,h.cell 4,h.cell 5,h2.cell 0,h2.cell 1,h2.cell 2,h2.cell 3,h2.cell 4⟩:Y.cell? ⟨q,2,.none⟩=some (.int .i64 sp)/\Y.cell? ⟨q,3,.none⟩=some (.int .i64 sc)/\Y.cell? ⟨q,4,.none⟩=some (.int .i64 sm)/\Y.cell? ⟨q,5,.none⟩=some (.int .i64 cl)/\Y.cell? ⟨E,0,.none⟩=some (.bool bl)/\Y.cell? ⟨E,1,.none⟩=some (.int .i64 y)/\Y.cell? ⟨E,2,.none⟩=some (.int .i64 z)/\Y.cell? ⟨E,3,.none⟩=some (.int .i64 n)/\Y.cell? ⟨E,4,.none⟩=some (.int .i64 o)))
 go_region_held3 (λY=>Y.cell? ⟨q,2,.none⟩=some (.int .i64 sp)/\Y.cell? ⟨q,3,.none⟩=some (.int .i64 sc)/\Y.cell? ⟨q,4,.none⟩=some (.int .i64 sm)/\Y.cell? ⟨q,5,.none⟩=some (.int .i64 cl)/\Y.cell? ⟨E,0,.none⟩=some (.bool bl)/\Y.cell? ⟨E,1,.none⟩=some (.int .i64 y)/\Y.cell? ⟨E,2,.none⟩=some (.int .i64 z)/\Y.cell? ⟨E,3,.none⟩=some (.int .i64 n)/\Y.cell? ⟨E,4,.none⟩=some (.int .i64 o))
  (first|exact hS _ _ j T|exact hS _ _ hC b5|exact hS _ _ ((hC.set 1 _).cast rfl) (b5.other (λe=>cb e.symm) _ _))
  (first|(go_at_call 164;refine(gn _).mono ?_;rintro r H ⟨l,rfl,bh,C,J⟩;have hC:=j.below J;have b5:=T.below J;have z1:=ce (.pointer none) (hC.cell 1);have zf:=KA hC))
 have cg:=J.size;have ck:w.heap.size<=X.drew.heap.size:=V.size;have b3:l≠q:=by omega
 have bj:l≠p:=by omega
 have bi:l≠b:=by omega
 have bf:=(bw.below J).other bq bm 1 (.pointer (some ⟨l,0,.none⟩));have ba:=(hC.set 1 (.pointer (some ⟨l,0,.none⟩))).cast (cs':=QG ⟨sp,sc,sm⟩ cl (.pointer (some ⟨D,0,.none⟩)) (.pointer (some ⟨l,0,.none⟩))) rfl;have c9:=C.other b3 1 (.pointer (some ⟨l,0,.none⟩));have ca:Only (λk=>k=q) w (H.setCell ⟨q,1,.none⟩ (.pointer (some ⟨l,0,.none⟩))):=Only.setCell (F:=λk=>k=q) (Only.of_below (qA V J)) (.inl rfl) _;have c7:Below w.heap.size w H:=qA V J;have bu:H.heap.size=(H.setCell ⟨q,1,.none⟩ (.pointer (some ⟨l,0,.none⟩))).heap.size:=(size_set _ _ _).symm;clear hC b5 z1 zf j T bw V C J hS R bv b6;generalize H.setCell ⟨q,1,.none⟩ (.pointer (some ⟨l,0,.none⟩))=Z at*;have y1:=ce (.pointer (some ⟨l,0,.none⟩)) (ba.cell 1);have lZ:q<Z.heap.size:=ba.lt;have c8:=hd' (b0 Z l c9 bf bj bi);clear b0 gn;go_wp2_with (first|(go_at_call 215;(with_reducible refine c8.out.mono ?_);rintro r w8 O;obtain rfl:=O.ret));go_returns;have cq:=O.only.size;refine i H _ (.returned (.tuple #[])) l c7 (by omega) (ba.only O.only ?_) (by omega) O.row O.wds ?_
 .rintro(e|e|e)
  .exact b3 e.symm
  .exact bq e
  exact bm e
 refine(ca.weak (G:=λk=>k=q\/k=p\/k=b) (λk M=>.inl M)).trans O.only (λk M S=>?_);rcases S with rfl|S|S
 .omega
 .exact .inr (.inl S)
 exact .inr (.inr S)
end Go.Proofs.YtkilokkopbajkaaGreat
