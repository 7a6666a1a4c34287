/- Lemmas for the claim. -/
import Derived.Test.YtmmbicppdjgbmaaGreatBw31

import Derived.Test.YtmmbicppdjgbmaaGreatBw33

set_option linter.all false
set_option maxHeartbeats 4000000
set_option maxRecDepth 100000
namespace Go.Proofs.YtmmbicppdjgbmaaGreat

attribute [local go_sem] GB

section

open Go.RowKit

attribute [local go_sem ↓] Go.wp_at_zero Go.wp_at_succ

def LT (w w':World) (e:Ending) (s:Sh) (c:Int) (x:Nat):Prop:=Below w.heap.size w w'/\
 if uA s.p s.c s.m c < 0 then e= .returned (.pointer none) else ∃ q,e= .returned (.pointer (some ⟨q,0,.none⟩))/\KlO (fun i=> w.heap.size<=i/\i < w'.heap.size) w' q s (SD c (Fl.TC x s.p))
theorem z0k(s:Sh)(c:Int)(x:Nat)(w:World)(V: -9223372036854775808<=s.p/\s.p<=9223372036854775807):
  Calls Tryz.prog 61 #[.agg #[s.p,s.c,s.m],c,F64 x] w fun e w'=>LT w w' e s c x:=by
 have y:=fun W=>lC s.p s.c s.m c W;have B:=fun W=>z4a x s.p V.1 V.2 W;have G:=fun W=>zxv 1 W;unfold LT
 have D:=hd' (fun (Y W:World) (E S:Nat) (hb:Below w.heap.size w W) (hS:w.heap.size<=S) (hE:w.heap.size<=E) (M:E≠S) (I:aA W E (GB s (SD c (Fl.TC x s.p)) true .nilIface (.pointer (some ⟨S,0,.none⟩))) 132) (hs:aA W S #[.slice none 0 0,.int .i64 1] 194)=>(by
  refine⟨fun i hi=>hi.2,⟨hE,I.lt⟩,S,.slice none 0 0,.nilIface,fun _=>False,I,⟨Nat.zero_le _,hs,World.ownsRow_nil _ _ _ _,by simp[Value.ownBlock],fun f hf=>by cases hf⟩,fun i hi=>?_,fun i hi=>hi.elim,fun _=>rfl,fun j hj=>by cases hj⟩
  rcases hi with rfl|hi
  ·exact⟨⟨hS,hs.lt⟩,fun e=>M e.symm⟩
  ·exact absurd hi (fun e=>by cases e):KlO (fun i=>w.heap.size<=i/\i<W.heap.size) W E s (SD c (Fl.TC x s.p))))
 generalize uA s.p s.c s.m c=sx at *;generalize Fl.TC x s.p=sh at *;obtain⟨sp,o,q⟩:=s;dsimp only[GB,SD,Op3.zero]at y B D ⊢;replace y:=hd' y;replace B:=hd' B;replace G:=hd' G;have F:=(Below.refl w.heap.size w).alloc lr (.cells #[sp,o,q] 23);have t0:aA (w.alloc (.cells #[sp,o,q] 23)) w.heap.size #[sp,o,q] 23:=jA _ _;go_in;go_upto_region 1 with fail;generalize w.alloc (.cells #[sp,o,q] 23)=X at *;obtain⟨H,b0,C⟩:=hidv w.heap.size;rw[<-C]at t0 ⊢;have b1:w.heap.size<=H:=by omega
 clear C;have Z:H<X.heap.size:=t0.lt;have L:=t0.cell;by_cases hs:sx<0
 ·go_wp2_with (go_at_call 29;(with_reducible refine(y _).mono ?_);rintro r l ⟨rfl,z⟩);go_returns;refine⟨zA F z,?_⟩;first|rfl|(rw[jP hs])
 have b3:decide (sx<0)=false:=jF hs;go_upto_region 3 with(go_at_call 29;(with_reducible refine(y _).mono ?_);rintro r l ⟨rfl,z⟩);have t1:=t0.below z;have n:=zA F z;have J:=t1.drew;have bd:=n.drew;clear Z L F t0;have Z:H<l.drew.heap.size:=J.lt;have hS:=hd' (fun (Y:World) (I:aA Y H #[sp,o,q] 23)=>(⟨I.cell 0,I.cell 1,I.cell 2⟩:Y.cell? ⟨H,0,.none⟩=some (.int .i64 sp)/\Y.cell? ⟨H,1,.none⟩=some (.int .i64 o)/\Y.cell? ⟨H,2,.none⟩=some (.int .i64 q)))
 go_region_held3 (fun Y=>Y.cell? ⟨H,0,.none⟩=some (.int .i64 sp)/\Y.cell? ⟨H,1,.none⟩=some (.int .i64 o)/\Y.cell? ⟨H,2,.none⟩=some (.int .i64 q))
  (first|exact hS _ J|exact hS _ (J.alloc _)|exact hS _ ((J.alloc _).alloc _))
  (first|(go_at_call 96;refine(B _).mono ?_;rintro r w2 ⟨rfl,O⟩;obtain rfl:=O.symm)|(go_at_call 97;refine(G _).mono ?_;rintro r w3 ⟨rfl,R⟩;obtain rfl:=R.symm))
 all_goals go_wp2_with fail
 go_returns;have U:(l.alloc (.cells #[.slice none 0 0,.int .i64 1] 194)).heap.size=l.heap.size+1:=size_alloc _ _;have r1:aA ((l.alloc (.cells #[.slice none 0 0,.int .i64 1] 194)).alloc (.cells #[sp,o,q,c,sh,.int .i64 0,.int .i64 0,.int .i64 0,.nilIface,.bool true,.bool false,some l.heap.size,.int .i64 0] 132)) l.heap.size #[.slice none 0 0,.int .i64 1] 194:=aA.alloc (jA _ _) _;have r2:aA ((l.alloc (.cells #[.slice none 0 0,.int .i64 1] 194)).alloc (.cells #[sp,o,q,c,sh,.int .i64 0,.int .i64 0,.int .i64 0,.nilIface,.bool true,.bool false,some l.heap.size,.int .i64 0] 132)) (l.heap.size+1) #[sp,o,q,c,sh,.int .i64 0,.int .i64 0,.int .i64 0,.nilIface,.bool true,.bool false,some l.heap.size,.int .i64 0] 132:=by have h:=jA (l.alloc (.cells #[.slice none 0 0,.int .i64 1] 194)) (.cells #[sp,o,q,c,sh,.int .i64 0,.int .i64 0,.int .i64 0,.nilIface,.bool true,.bool false,some l.heap.size,.int .i64 0] 132);rw[U]at h;exact h
 have T:Below w.heap.size w ((l.alloc (.cells #[.slice none 0 0,.int .i64 1] 194)).alloc (.cells #[sp,o,q,c,sh,.int .i64 0,.int .i64 0,.int .i64 0,.nilIface,.bool true,.bool false,some l.heap.size,.int .i64 0] 132)).drew:=((n.alloc n.size (.cells #[.slice none 0 0,.int .i64 1] 194)).alloc (by rw[U];have:=n.size;omega) (.cells #[sp,o,q,c,sh,.int .i64 0,.int .i64 0,.int .i64 0,.nilIface,.bool true,.bool false,some l.heap.size,.int .i64 0] 132)).drew;refine⟨T,?_⟩;try rw[jN hs]
 exact⟨_,rfl,D w _ (l.heap.size+1) l.heap.size T n.size (by have:=n.size;omega) (by omega) r2.drew r1.drew⟩
end

section

variable {s:Sh} {σ:Ab} {c:Int}

def VH (n:Int) (t:Rs):Prop:=(wi n 1 32=true/\t.k=BB n/\∃ x,t.seeker=some x)\/(wi n 1 32=false/\wi n 33 512=true/\t.pages=runV n/\t.seeker=none)
theorem xO(b:Blk):(jD b).at'=b.at'/\(jD b).len=b.len:=by
 unfold jD Blk.at' Blk.len;split<;>exact⟨rfl,rfl⟩
theorem KV{n:Int}{t:Rs}{b:Blk}(h:VH n t)(f:t.got=some b):b.len=lenV n:=by
 obtain⟨k,pg,sk,rn⟩:=t;unfold Rs.got at f;unfold lenV;rcases h with⟨h1,h2,x,h3⟩|⟨h1,h2,h3,h4⟩
 ·dsimp only at h2 h3 f;subst h3;dsimp only at f;split at f
  ·injection f with f;subst f;rw[jP h1,<- h2];rfl
  cases f
 dsimp only at h3 h4 f;subst h4;rcases rn with _|y
 ·cases f
 dsimp only at f;split at f
 ·injection f with f;subst f;rw[jN (by rw[h1];decide),<- h3];rfl
 cases f
theorem FV{n:Int}(h:lenB n=true)(s:Sh)(c f:Int):VH n (CB s c n f):=by
 have j:=IA.1 (show wi n 1 512=true from h);unfold CB VH;by_cases h1:wi n 1 32=true
 ·rw[jP h1];exact .inl ⟨h1,rfl,_,rfl⟩
 have i:wi n 1 32=false:=by simpa using h1
 have l:=mG.1 i;have h2:wi n 33 512=true:=IA.2 (by omega);rw[jN h1,jP h2];exact .inr ⟨i,h2,rfl,rfl⟩
theorem iV{n:Int}{t:Rs}(h:VH n t)(s:Sh)(σ:Ab):VH n (rsA s t σ).1:=by
 obtain⟨k,pg,sk,rn⟩:=t;unfold rsA;rcases h with⟨h1,h2,x,h3⟩|⟨h1,h2,h3,h4⟩
 ·dsimp only at h2 h3;subst h3;exact .inl ⟨h1,h2,_,rfl⟩
 dsimp only at h3 h4;subst h4;rcases rn with _|y
 ·exact .inr ⟨h1,h2,h3,rfl⟩
 exact .inr ⟨h1,h2,h3,rfl⟩
structure sG (H:Bl->Prop) (ab:Bool) (a:Int) (f:Fe):Prop where
 ad:f.a=a
 pg:f.page=a / 64
 bl:f.done=false->1<=f.next->(feBl f).at'=a
 see:f.done=false->f.next=1->ab=true\/H (feBl f)
 no:f.done=true->f.gave=false->ab=true
theorem sW{a:Int}(hs:mayB s.p s.c s.m=true)(hc:0<=c/\c<s.c)(i:spB s a=true)(H:Bl->Prop)(ab:Bool):sG H ab a (nB s c a):=by
 have f:=HU (c:=c) hs hc i;refine⟨rfl,jP i,fun _ e=>?_,fun _ e=>?_,fun e=>?_⟩
 ·rw[f.2.1]at e;omega
 ·rw[f.2.1]at e;cases e
 rw[f.1]at e;cases e
theorem z4z{t:Fe}{x:PW}(hd:t.done=false):(t.ZB x).a=t.a/\(t.ZB x).page=t.page/\(t.ZB x).gave=t.gave/\(t.ZB x).next=1/\(t.ZB x).pk=x.kind/\(t.ZB x).pa=x.pa/\(((t.ZB x).done=false/\((x.kind=3/\t.a%64=0)\/(x.kind=2/\t.a%64%AA x.pa=0/\(t.ZB x).slot=t.a%64/AA x.pa)))\/((t.ZB x).done=true/\¬ (x.kind=3/\t.a%64=0)/\¬ (x.kind=2/\t.a%64%AA x.pa=0))):=by
 unfold Fe.ZB;dsimp only;split
 ·rename_i h;exact⟨rfl,rfl,rfl,rfl,rfl,rfl,.inl ⟨hd,.inl h⟩⟩
 rename_i h;split
 ·rename_i h2;exact⟨rfl,rfl,rfl,rfl,rfl,rfl,.inl ⟨hd,.inr ⟨h2.1,h2.2,rfl⟩⟩⟩
 rename_i h2;exact⟨rfl,rfl,rfl,rfl,rfl,rfl,.inr ⟨rfl,h,h2⟩⟩
theorem UV(j:GI s σ){b:Bl}{a:Int}(hb:σ.has b)(f:b.at'=a):(∃ n,b= .lar (a/64) n/\σ.pg (a/64)= .large n/\a%64=0)\/(∃ i k q,b= .sm (a/64) i k/\σ.pg (a/64)= .super k q/\a%64=i*AA k/\0<=k/\k<=3/\0<=i/\i<mA k):=by
 cases b with
 |lar p n=>
  have h1:σ.pg p= .large n:=hb;have:=KH j h1;simp only[Bl.at']at f;have e:p=a/64:=by omega
  subst e;exact .inl ⟨n,rfl,h1,by omega⟩
 |sm p i k=>
  obtain⟨⟨q,h1⟩,h2,h3,h4⟩:=pH j hb;have l:=iH h3 h2;simp only[Bl.at']at f;have e:p=a/64:=by omega
  subst e;exact .inr ⟨i,k,q,rfl,h1,by omega,h3.1,h3.2,h2.1,h2.2⟩
theorem z4u{k:Int}(h:0<=k/\k<=3):0<AA k:=by rcases ZI h with⟨e,_⟩|⟨e,_⟩|⟨e,_⟩|⟨e,_⟩<;>rw[e]<;>decide
theorem OU{m:Mem}{t:Fe}{a:Int}{ab ab':Bool}(hr:Rep s m σ)(Y:GI s σ)(S:feIs s c t)(hd:t.done=false)(hw:t.next=1->t.pk=3->t.word=(PW.large t.pa).enc)(h:sG σ.has ab a t)(G:(∀ b,σ.has b->b.at'≠a)->ab=true)(B:ab=true->ab'=true):
  sG (feA s t σ).2.has ab' a (feA s t σ).1:=by
 obtain⟨c1,c2,c3,c4,c5,c6,c7,c8,c9,b0⟩:=S.ok.cl hd;obtain⟨h1,h2,h3,h4,h5⟩:=h;unfold feA;rw[jN (by rw[hd];decide)];by_cases n0:t.next=0
 ·rw[jP n0];obtain⟨l1,E,l3,l4,U,O,R⟩:=z4z (t:=t) (x:=σ.pg t.page) hd;dsimp only;rw[h2]at l1 E l3 l4 U O R ⊢;refine⟨l1.trans h1,E,fun e _=>?_,fun e _=>?_,fun e _=>?_⟩
  ·rcases R with⟨_,⟨f,l⟩|⟨f,l,F⟩⟩|⟨f,_⟩
   ·unfold feBl;rw[jP (U.trans f)];show (t.ZB _).page*64=a;rw[E];rw[h1]at l;omega
   ·unfold feBl;rw[jN (by omega)];show (t.ZB _).page*64+(t.ZB _).slot*AA (t.ZB _).pa=a;rw[E,F,O];rw[h1]at l ⊢;have:=Int.ediv_mul_cancel (Int.dvd_of_emod_eq_zero l);rw[this];omega
   rw[f]at e;cases e
  ·rcases R with⟨_,⟨f,l⟩|⟨f,l,F⟩⟩|⟨f,_⟩
   ·refine .inr ?_;unfold feBl;rw[jP (U.trans f)];show σ.pg (t.ZB _).page= .large (t.ZB _).pa;rw[E,O];cases o:σ.pg (a/64)<;>rw[o]at f<;>simp[PW.kind]at f;rfl
   ·by_cases p:σ.has (feBl (t.ZB (σ.pg (a/64))))
    ·exact .inr p
    refine .inl (B (G fun b hb r=>p ?_));have j:feBl (t.ZB (σ.pg (a/64)))= .sm (a/64) (a%64/AA (σ.pg (a/64)).pa) (σ.pg (a/64)).pa:=by unfold feBl;rw[jN (by omega),E,F,O,h1]
    rcases UV Y hb r with⟨n,f1,f2,D⟩|⟨i,k,q,f1,f2,D,V,X,f6⟩
    ·rw[f2]at f;cases f
    rw[j,f2];show σ.has (.sm (a/64) (a%64/AA k) k);rw[D,Int.mul_ediv_cancel _ (by have:=z4u ⟨V,X⟩;omega)];rw[f1]at hb;exact hb
   rw[f]at e;cases e
  rcases R with⟨f,_⟩|⟨_,f,l⟩
  ·rw[f]at e;cases e
  refine B (G fun b hb r=>?_);rw[h1]at f l;rcases UV Y hb r with⟨n,f1,f2,D⟩|⟨i,k,q,f1,f2,D,V,X,f6⟩
  ·exact f ⟨by rw[f2];rfl,D⟩
  exact l ⟨by rw[f2];rfl,by rw[f2];show a%64%AA k=0;rw[D];exact Int.mul_emod_left _ _⟩
 rw[jN n0];by_cases n1:t.next=1
 ·rw[jP n1];have H:=S.gv (by omega);have I:¬ σ.has (feBl t)->ab'=true:=fun hn=>by
   rcases h4 hd n1 with e|e
   ·exact B e
   exact absurd e hn
  have j:=h3 hd (by omega);by_cases C:t.pk=3
  ·rw[jP C];have z:feBl t= .lar t.page t.pa:=jP C;by_cases o:(σ.pg t.page).enc=t.word
   ·rw[jP o];exact⟨h1,h2,fun _ _=>j,fun _ e=>(by cases e),fun e=>(by cases e)⟩
   rw[jN o];refine⟨h1,h2,fun e=>(by cases e),fun e=>(by cases e),fun _ _=>I fun p=>o ?_⟩;rw[z]at p;have p:σ.pg t.page= .large t.pa:=p;rw[p,hw n1 C]
  rw[jN C];have z:feBl t= .sm t.page t.slot t.pa:=jN C;have keep:∀ g,(t.gotA s g).a=t.a/\(t.gotA s g).page=t.page/\(t.gotA s g).slot=t.slot/\(t.gotA s g).pk=t.pk/\(t.gotA s g).pa=t.pa/\(t.gotA s g).gave=g/\(t.gotA s g).done= !g/\(g=true->(t.gotA s g).next≠1):=fun g=>by
   unfold Fe.gotA;dsimp only;split
   ·unfold Fe.kept;dsimp only;split
    ·exact⟨rfl,rfl,rfl,rfl,rfl,rfl,rfl,fun _=>(by dsimp only;first|decide|omega|simp)⟩
    split<;>exact⟨rfl,rfl,rfl,rfl,rfl,rfl,rfl,fun _=>(by dsimp only;first|decide|omega|simp)⟩
   exact⟨rfl,rfl,rfl,rfl,rfl,rfl,rfl,fun _=>(by dsimp only;first|decide|omega|simp)⟩
  by_cases o:σ.sl t.page t.slot= .taken t.pa
  ·rw[jP o];obtain⟨k1,L,J,Z,k5,k6,M,k8⟩:=keep true;refine⟨k1.trans h1,L.trans h2,fun _ _=>?_,fun _ e=>absurd e (k8 rfl),fun e=>?_⟩
   ·rw[<-j];unfold feBl;rw[Z,jN C,jN C,L,J,k5]
   rw[M]at e;cases e
  rw[jN o];obtain⟨k1,L,J,Z,k5,k6,M,k8⟩:=keep false;refine⟨k1.trans h1,L.trans h2,fun e=>(by rw[M]at e;cases e),fun e=>(by rw[M]at e;cases e),fun _ _=>I fun p=>o ?_⟩;rw[z]at p;exact p
 rw[jN n1];have H:=S.gv2 (by omega) hd;have j:=h3 hd (by omega);have fin:∀ (t':Fe) (σ':Ab),t'.a=t.a->t'.page=t.page->t'.slot=t.slot->t'.pk=t.pk->t'.pa=t.pa->t'.gave=t.gave->(t'.next≠1)->sG σ'.has ab' a t':=fun t' σ' f l F e4 e5 e6 e7=>⟨f.trans h1,l.trans h2,fun _ _=>by rw[<-j];unfold feBl;rw[e4,l,F,e5],fun _ e=>absurd e e7,fun _ e=>by rw[e6,H]at e;cases e⟩
 by_cases n2:t.next=2
 ·rw[jP n2];obtain⟨_,x,o,_⟩:=c8 n2;rw[o];dsimp only;have T:∀ y:Fe,y.kept.a=y.a/\y.kept.page=y.page/\y.kept.slot=y.slot/\y.kept.pk=y.pk/\y.kept.pa=y.pa/\y.kept.gave=y.gave/\(y.next≠1->y.kept.next≠1):=fun y=>by
   unfold Fe.kept;split
   ·split
    ·exact⟨rfl,rfl,rfl,rfl,rfl,rfl,id⟩
    split
    ·exact⟨rfl,rfl,rfl,rfl,rfl,rfl,fun _=>(by dsimp only;first|decide|omega|simp)⟩
    exact⟨rfl,rfl,rfl,rfl,rfl,rfl,id⟩
   exact⟨rfl,rfl,rfl,rfl,rfl,rfl,id⟩
  obtain⟨a1,a2,a3,a4,a5,a6,a7⟩:=T {t with put:=some (puA s x σ).1};exact fin _ _ a1 a2 a3 a4 a5 a6 (a7 n1)
 rw[jN n2];split
 ·exact fin _ _ rfl rfl rfl rfl rfl rfl n1
 split
 ·exact fin _ _ rfl rfl rfl rfl rfl rfl n1
 exact fin _ _ rfl rfl rfl rfl rfl rfl n1
end

section

variable {s:Sh} {σ σ':Ab} {c:Int} {d d':Wd}

def vF (H:Bl->Prop) (ab:Bool) (o:Op3):Jb->Prop
 | .mal r _=> o.k=1/\lenB o.n=true/\VH o.n r
 | .fre f=> o.k=2/\sG H ab o.a f
 | .aga r=> o.k=3/\lenB o.n=true/\(∀ x,r.res=some x->VH o.n x)/\(∀ f,r.free=some f->sG H ab o.a f)/\(r.done=true->r.err=0\/(r.err=3/\bC r=false)\/(r.err=1/\bC r=false/\ab=true))
 | .hei a=> o.k=4/\(a.done=true->a.err=0\/a.err=4\/a.err=5)
theorem sG.mono{H l:Bl->Prop}{ab ab':Bool}{a:Int}{f:Fe}(h:sG H ab a f)(h1:ab=true->ab'=true)(h2:∀ b,b.at'=a->H b->ab'=true\/l b):sG l ab' a f:=by
 refine⟨h.ad,h.pg,h.bl,fun i j=>?_,fun i j=>h1 (h.no i j)⟩;rcases h.see i j with e|e
 ·exact .inl (h1 e)
 exact h2 _ (h.bl i (by omega)) e
theorem vF.mono{H i:Bl->Prop}{ab ab':Bool}{o:Op3}{j:Jb}(h:vF H ab o j)(h1:ab=true->ab'=true)(h2:∀ b,b.at'=o.a->H b->ab'=true\/i b):vF i ab' o j:=by
 cases j with
 |mal r x=>exact h
 |fre f=>exact⟨h.1,h.2.mono h1 h2⟩
 |aga r=>exact⟨h.1,h.2.1,h.2.2.1,fun f l=>(h.2.2.2.1 f l).mono h1 h2,fun e=>(h.2.2.2.2 e).imp id (Or.imp id fun e=>⟨e.1,e.2.1,h1 e.2.2⟩)⟩
 |hei a=>exact h
theorem fV{H:Bl->Prop}{ab:Bool}{o:Op3}{j:Jb}{b:Blk}(h:vF H ab o j)(hb:j.took=some b):b.len=lenV o.n/\lenB o.n=true/\(o.k=1\/o.k=3):=by
 cases j with
 |mal r x=>
  have hb:(if IC x=true then r.got else none)=some b:=hb;split at hb
  ·exact⟨KV h.2.2 hb,h.2.1,.inl h.1⟩
  cases hb
 |fre f=>cases hb;|aga r=>
  have hb:(if r.done=true/\r.err=0 then(match r.res with|some x=>x.got|none=>none) else none)=some b:=hb;split at hb
  ·cases hr:r.res with
   |none=>rw[hr]at hb;cases hb
   |some x=>rw[hr]at hb;exact⟨KV (h.2.2.1 x hr) hb,h.2.1,.inr h.1⟩
  cases hb
 |hei a=>cases hb
theorem oJ(s:Sh)(t:Rr)(r:Rs)(f:Fe)(h1:t.res=some r)(h2:t.free=some f)(hd:t.done=false){ab:Bool}(hu:BD t.undo=true->f.gave=false/\ab=true)(l:r.done=true->r.got=none->f.gave=false):(t.settle s).res=some r/\(t.settle s).free=some f/\((t.settle s).done=true->(t.settle s).err=0\/((t.settle s).err=3/\bC (t.settle s)=false)\/((t.settle s).err=1/\bC (t.settle s)=false/\ab=true)):=by
 have i:∀ t':Rr,t'.free=some f->bC t'=f.gave:=fun t' e=>by unfold bC;rw[e]
 rcases IF s t r f h1 h2 with⟨k1,e⟩|⟨_,k1,e⟩|⟨_,_,k1,e⟩|⟨_,_,k1,j,e⟩|⟨b,_,_,k1,j,m,e⟩|⟨b,_,_,_,_,_,_,k1,_,e⟩|⟨b,_,_,_,_,_,_,k1,_,e⟩<;>rw[e]
 ·exact⟨h1,h2,fun _=>.inr (.inr ⟨rfl,(i _ h2).trans (hu k1).1,(hu k1).2⟩)⟩
 ·exact⟨h1,h2,fun _=>.inl rfl⟩
 ·exact⟨h1,h2,fun e=>(by rw[hd]at e;cases e)⟩
 ·exact⟨h1,h2,fun _=>.inr (.inl ⟨rfl,(i _ h2).trans (l k1 j)⟩)⟩
 ·exact⟨h1,h2,fun e=>(by rw[hd]at e;cases e)⟩
 ·exact⟨h1,h2,fun e=>(by have e:t.done=true:=e;rw[hd]at e;cases e)⟩
 exact⟨h1,h2,fun e=>(by have e:t.done=true:=e;rw[hd]at e;cases e)⟩
theorem z97{s:Sh}{σ:Ab}{t:Ad}(hd:t.done=false)(h4:0<=t.next/\t.next<=13)(e:(adA s t σ).1.done=true):(adA s t σ).1.err=0\/(adA s t σ).1.err=4\/(adA s t σ).1.err=5:=by
 have l:∀ (t':Ad) x y,t'.done=false->(t'.turn s x y).done=false:=fun t' x y h=>by
  unfold Ad.turn;dsimp only;split
  ·split<;>exact h
  split<;>exact h
 have sl:∀ t':Ad,t'.done=false->(t'.slot s).done=false:=fun t' h=>by
  unfold Ad.slot;split
  ·exact l _ _ _ h
  exact h
 have no:∀ (t':Ad),t'.done=false->t'.done=true->t'.err=0\/t'.err=4\/t'.err=5:=fun t' a b=>by rw[a]at b;cases b
 have f:t.next=0\/t.next=1\/t.next=2\/t.next=3\/t.next=4\/t.next=5\/t.next=6\/t.next=7\/t.next=8\/t.next=9\/t.next=10\/t.next=11\/t.next=12\/t.next=13:=by omega
 have j:∀ (p:Prop) [Decidable p] (a b:Ad),a.done=false->(b.done=false)->(if p then a else b).done=false:=fun p _ a b h1 h2=>by split<;>assumption
 have m:∀ (p:Prop) [Decidable p] (a b:Ad),(a.done=true->a.err=0\/a.err=4\/a.err=5)->(b.done=true->b.err=0\/b.err=4\/b.err=5)->(if p then a else b).done=true->(if p then a else b).err=0\/(if p then a else b).err=4\/(if p then a else b).err=5:=fun p _ a b h1 h2=>by split<;>assumption
 rcases f with f|f|f|f|f|f|f|f|f|f|f|f|f|f
 ·rw[LI hd f]at e ⊢;cases i:σ.st t.d with
  |dead=>rw[i]at e;exact no _ hd e
  |owned q=>rw[i]at e;exact no _ hd e
  |_=>exact .inr (.inr rfl)
 ·rw[UJ hd f]at e ⊢;exact m _ _ _ (fun _=>.inr (.inl rfl)) (no _ hd) e
 ·rw[XJ hd f]at e ⊢;by_cases i:(σ.st t.d).enc=t.was
  ·rw[jP i]at e ⊢;exact no _ hd e
  rw[jN i];exact .inr (.inl rfl)
 ·rw[eN hd f]at e ⊢;cases i:σ.pg t.at' with
  |body h=>rw[i]at e;exact no _ hd e
  |_=>rw[i]at e;exact no _ (l _ _ _ hd) e
 ·rw[aN hd f]at e ⊢;exact no _ (j _ _ _ hd (l _ _ _ hd)) e
 ·rw[gN hd f]at e ⊢;exact no _ (l _ _ _ hd) e
 ·rw[fN hd f]at e ⊢;exact no _ (j _ _ _ hd (l _ _ _ hd)) e
 ·rw[dN hd f]at e ⊢;exact no _ (j _ _ _ hd hd) e
 ·rw[mN hd f]at e ⊢;exact no _ (l _ _ _ hd) e
 ·rw[iN hd f]at e ⊢;exact no _ (j _ _ _ hd hd) e
 ·rw[CO hd f]at e ⊢;cases i:σ.pg t.at' with
  |super k b=>rw[i]at e;exact no _ hd e
  |_=>rw[i]at e;exact no _ (l _ _ _ hd) e
 ·rw[zO hd f]at e ⊢;exact no _ (j _ _ _ hd (sl _ hd)) e
 ·rw[DO hd f]at e ⊢;exact no _ (sl _ hd) e
 rw[zT hd f];exact .inl rfl
theorem zzb{m:Mem}{j:Jb}{o:Op3}{ab ab':Bool}(hr:Rep s m σ)(hg:GI s σ)(F:jbIs s c j)(b2:0<=c/\c<s.c)(hd:j.done=false)(L:JbAt s c σ j)(h:vF σ.has ab o j)(X:(∀ b,σ.has b->b.at'≠o.a)->ab=true)(M:ab=true->ab'=true)(l:(j.QC s c σ).1.gave=j.gave->∀ b,b.at'=o.a->σ.has b->(j.QC s c σ).2.has b):vF (j.QC s c σ).2.has ab' o (j.QC s c σ).1:=by
 cases j with
 |mal r x=>
  unfold Jb.QC;dsimp only;split
  ·exact⟨h.1,h.2.1,iV h.2.2 s σ⟩
  split
  ·exact h
  exact h
 |fre f=>exact⟨h.1,OU hr hg F hd (L.2.w hd) h.2 X M⟩;|aga t=>
  obtain⟨h1,h2,h3,h4,h5⟩:=h;obtain⟨r,f,C,n,o1,o2,o3,o4,o5,o6⟩:=F.ok.cl hd;have hd:t.done=false:=hd;have O:=h3 r C;have S:=h4 f n;show vF (rrA s t σ).2.has ab' o (.aga (rrA s t σ).1);have l:bC (rrA s t σ).1=bC t->∀ b,b.at'=o.a->σ.has b->(rrA s t σ).2.has b:=l;have mono:∀ (σ':Ab),(∀ b,b.at'=o.a->σ.has b->σ'.has b)->sG σ'.has ab' o.a f:=fun σ' hb=>S.mono M fun b C n=>.inr (hb b C n);have ng:∀ u,t.undo=some u->f.gave=false:=fun u hu=>by obtain⟨J,a,b⟩:=F.ng u hu;rw[n]at a;injection a with a;subst a;exact b
  have V:∀ u,t.undo=some u->ab'=true:=fun u hu=>by obtain⟨r',J,a1,E,a3,a4⟩:=F.mid hd (.inl (by rw[hu];simp));rw[n]at a3;injection a3 with a3;subst a3;exact M (S.no a4 (ng u hu))
  have gn:r.done=true->r.got≠none:=fun y B=>by
   have D:=L.inv.ph
   have Z:¬ r.done=false:=by rw[y];decide
   cases hu:t.undo with
   |some u=>
    rw[DL hd C n Z hu]at D
    exact D.2.2 r C B
   |none=>
    cases hc:t.com with
    |some u=>
     obtain⟨r',J,a1,E,_⟩:=F.gv u hc
     rw[C]at a1;injection a1 with a1;subst a1
     rw[B]at E;cases E
    |none=>
     rw[mI hd C n Z hu hc,B]at D
     have D:t.done=true:=D
     rw[hd]at D;cases D
  by_cases y:r.done=false
  ·rw[TS hd C n y]at l ⊢;have Y:f.gave=false:=by have D:=L.inv.ph;have H:t.ph= .res r:=KP hd C n y;rw[H]at D;exact(F.fre f n).gv (by rw[(D.2 f n).2.1];decide)
   obtain⟨T,I,U⟩:=oJ s {t with res:=some (rsA s r σ).1} (rsA s r σ).1 f rfl n hd (ab:=ab') (fun hu=>by
    cases p:t.undo with
    |none=>have hu:BD t.undo=true:=hu;rw[p]at hu;cases hu
    |some u=>exact⟨Y,V u p⟩) (fun _ _=>Y)
   have G:=l (by unfold bC;rw[I,n]);exact⟨h1,h2,fun x z=>by rw[T]at z;injection z with z;subst z;exact iV O s σ,fun J i=>by rw[I]at i;injection i with i;subst i;exact mono _ G,U⟩
  have R:r.done=true:=by simpa using y
  have B:=gn R;by_cases q:f.done=false
  ·rw[iT hd C n y q]at l ⊢
   have H:∃ b,t.ph= .fre b f:=by
    have b0:t.undo=none/\t.com=none:=by
     constructor
     ·cases hu:t.undo with
      |none=>rfl
      |some u=>obtain⟨r',J,_,_,a1,E⟩:=F.mid hd (.inl (by rw[hu];simp));rw[n]at a1;injection a1 with a1;subst a1;rw[q]at E;cases E
     ·cases hu:t.com with
      |none=>rfl
      |some u=>obtain⟨r',J,_,_,a1,E⟩:=F.mid hd (.inr (by rw[hu];simp));rw[n]at a1;injection a1 with a1;subst a1;rw[q]at E;cases E
    cases hb:r.got with
    |none=>exact absurd hb B
    |some b=>exact⟨b,by rw[mI hd C n y b0.1 b0.2,hb]⟩
   obtain⟨b,H⟩:=H;have D:=L.inv.ph;rw[H]at D;have b1:=OU hr hg (F.fre f n) q (D.2.1.w q) S X M
   obtain⟨T,I,U⟩:=oJ s {t with free:=some (feA s f σ).1} r (feA s f σ).1 C rfl hd (ab:=ab') (fun hu=>by
    cases p:t.undo with
    |none=>have hu:BD t.undo=true:=hu;rw[p]at hu;cases hu
    |some u=>obtain⟨r',J,_,_,a1,E⟩:=F.mid hd (.inl (by rw[p];simp));rw[n]at a1;injection a1 with a1;subst a1;rw[q]at E;cases E) (fun _ e=>absurd e B)
   exact⟨h1,h2,fun x z=>by rw[T]at z;injection z with z;subst z;exact O,fun J i=>by rw[I]at i;injection i with i;subst i;exact b1,U⟩
  cases hu:t.undo with
  |some u=>rw[VS hd C n y q hu]at l ⊢;obtain⟨T,I,U⟩:=oJ s {t with undo:=some (unA u σ).1} r f C n hd (ab:=ab') (fun _=>⟨ng u hu,V u hu⟩) (fun _ e=>absurd e B);have G:=l (by unfold bC;rw[I,n]);exact⟨h1,h2,fun x z=>by rw[T]at z;injection z with z;subst z;exact O,fun J i=>by rw[I]at i;injection i with i;subst i;exact mono _ G,U⟩
  |none=>
   cases hc:t.com with
   |none=>
    exfalso
    rcases o6 R (by simpa using q) with e|e
    ·exact e hu
    ·exact e hc
   |some u=>
    rw[IX hd C n y q hu hc]at l ⊢
    obtain⟨T,I,U⟩:=oJ s {t with com:=some (cmA u σ).1} r f C n hd (ab:=ab') (fun p=>by have p:BD t.undo=true:=p;rw[hu]at p;cases p) (fun _ e=>absurd e B)
    have G:=l (by unfold bC;rw[I,n])
    exact⟨h1,h2,fun x z=>by rw[T]at z;injection z with z;subst z;exact O,fun J i=>by rw[I]at i;injection i with i;subst i;exact mono _ G,U⟩
 |hei a=>refine⟨h.1,fun e=>?_⟩;have hd:a.done=false:=hd;have e:(adA s a σ).1.done=true:=e;show (adA s a σ).1.err=0\/(adA s a σ).1.err=4\/(adA s a σ).1.err=5;exact z97 (s:=s) (σ:=σ) hd (F.1.cl hd).2.2.2.1 e
end

section

open Go.RowKit

attribute [local go_sem ↓] Go.wp_at_zero Go.wp_at_succ

theorem yl2(p:Pt)(e:Ev)(b o:Nat)(w:World)(h:RpAt w b o p):
  Calls Tryz.prog 138 #[.pointer (some ⟨b,o,.none⟩),e.val] w fun r w'=>r= .returned (.bool (WB p e))/\Below w.heap.size w w':=by
 unfold Ev.val Ev.cells;have i:=fun X=>RQ p.n X;have j:=(Below.refl w.heap.size w).alloc lr (.cells #[e.k,e.c,e.ok,e.oa,e.on,e.at',e.n,e.er] 68);have h2:=h.below j;have t1:=jA w (.cells #[e.k,e.c,e.ok,e.oa,e.on,e.at',e.n,e.er] 68);go_in;go_upto_region 1 with fail;generalize w.alloc (.cells #[e.k,e.c,e.ok,e.oa,e.on,e.at',e.n,e.er] 68)=W at *;obtain⟨C,c0,c1,c2,c3,c4,c5,c6,c7,c8,c9,l⟩:=h2;have m:=iA t1 5;have q:=iA t1 7;clear c0 c1 c2 c7 l t1 h;have z:W.cell? ⟨w.heap.size,5,.none⟩=some (.int .i64 e.at'):=m;have B:W.cell? ⟨w.heap.size,7,.none⟩=some (.int .i64 e.er):=q;clear m q;replace i:=hd' i;go_wp2_with (first|(go_at_call 135;refine(i _).mono ?_;rintro r E ⟨rfl,D⟩;obtain rfl:=D.symm))
 all_goals first
  |go_returns
  |(rcases jB p.took with y|y<;>rw[y]at c3<;>(go_quiet (fail))<;>go_wp2<;>go_returns)
 all_goals exact⟨OF (by clear c3 c4 c5 c6 c8 c9 z B i j;first|(simp_all [WB,ID,VE];done)|(rw[Bool.eq_iff_iff];simp_all [WB,ID,VE])),by first|exact j|exact below_drewN j _⟩
theorem yod{B:Nat}{w:World}{jb s pb:Nat}{sl:Value}{J:Jd}(h:JrA B w jb s pb sl J)(e:Ev)(i o:Nat)(p:Pt)(hi:i<J.ps.length)(hp:J.ps[i]=p)(I:o=i*10)(Z:e.k=3/\(p.k=1\/p.k≠1/\p.k=3/\p.gave=true)/\p.took=false/\lenB p.n=true/\lenV p.n=e.n/\iB J.W J.l e.at' e.n=true):
  Calls Tryz.prog 112 #[some jb,.pointer (some ⟨pb,o,.none⟩),e.val] w fun r w'=>r= .returned (.int .i64 0)/\vC B w w' jb s pb sl {J with l:=putB J.l e.at' e.n,ps:=J.ps.set i {p with took:=true,at':=e.at'}}:=by
 obtain⟨T,Z,ht,hl,hv,y⟩:=Z;replace T:=hd' T;have bc:(-9223372036854775808<=e.at'/\e.at'<=9223372036854775807)/\(-9223372036854775808<=e.n/\e.n<=9223372036854775807):=by
  have h1:xE J.W e.at' e.n=true:=by unfold iB at y;exact(Bool.and_eq_true_iff.1 y).1
  have h2:=h.model.small;simp only[xE,decide_eq_true_eq]at h1;omega
 obtain⟨ha,hn⟩:=bc;unfold Ev.val Ev.cells;have C:=(Below.refl w.heap.size w).alloc lr (.cells #[e.k,e.c,e.ok,e.oa,e.on,e.at',e.n,e.er] 68);have t1:=jA w (.cells #[e.k,e.c,e.ok,e.oa,e.on,e.at',e.n,e.er] 68);have hJ:=h.below C;obtain⟨bk,c0,c1,c2,c3,c4,c5,c6,c7,c8,c9,bf⟩:=I ▸ (hJ.row.pt i hi hp);replace I:=hd' I;replace hp:=hd' hp;replace hi:=hd' hi;have bm:=h.lt;have bn:=h.row.lt;have bp:=h.model.lt;have bh:∀ k,sl.ownBlock=some k->k<w.heap.size:=fun k Z=>(h.model.owns.lt k Z).2;have m:=fun X=>RQ p.n X;rw[hl,hv]at m;replace m:=hd' m;have bv:(e.n !=e.n)=false:=by simp
 have M:Hid (∀ X,RM B X s sl J.W J.l->jK 136 #[some s,e.at',e.n] X fun r w'=>r= .returned (.bool true)/\∃ j,RM B w' s j J.W (putB J.l e.at' e.n)/\Only (foot s sl) X w'/\∀ k,foot s j k->foot s sl k\/X.heap.size<=k):=hd' fun X hX=>by have:=yje hX e.at' e.n ha.1 ha.2 hn.1 hn.2;rwa [yN y,y]at this
 have H:Hid (∀ X q j,jW w X->JrA B X jb s pb sl J->RM B q s j J.W (putB J.l e.at' e.n)->Only (foot s sl) X q->(∀ k,foot s j k->foot s sl k\/X.heap.size<=k)->vC B w q jb s pb sl {J with l:=putB J.l e.at' e.n}):=hd' fun X q j hw hj hm I hf=>vC.lower hw ⟨⟨j,hj.setM hm I hf,fun k e=>by
  rcases hf k (.inr e) with(h1|h1)|h1
  ·exact absurd (h1 ▸ e) hm.apart
  ·exact .inl h1
  ·exact .inr h1⟩,I.mono' fun k e=>.inr (.inr e)⟩
 clear hl hv y;rcases Z with Z|⟨bs,bu,hg⟩;all_goals
  go_in;go_upto_region 1 with fail;generalize w.alloc (.cells #[e.k,e.c,e.ok,e.oa,e.on,e.at',e.n,e.er] 68)=W at *;obtain⟨E,hE,b0⟩:=hidv w.heap.size;rw[<-b0]at t1 ⊢;have e0:W.cell? ⟨E,0,.none⟩=some (.int .i64 e.k):=iA t1 0;rw[T]at e0;have e5:W.cell? ⟨E,5,.none⟩=some (.int .i64 e.at'):=iA t1 5;have b7:=iA t1;have h0:=hJ.h0;have lj:jb<W.heap.size:=hJ.lt;have lE:E<W.heap.size:=(jE t1);clear b0;go_upto_region 10 with(first|(go_at_call 135;refine(m _).mono ?_;rintro r w1 ⟨rfl,hw⟩;obtain rfl:=hw.symm));refine wret 8 ?_;repeat (go_big_quiet_step (fail))
  refine wqn fun X bb=>?_;have D:=bb;have bi:=C.trans (D.mono C.size);have S:=hJ.below D;have z:=kA D _ _ _ e5;have b6:E<X.heap.size:=HD z;clear c0 c1 c2 c3 c4 c5 c6 c7 c8 c9 bf e0 e5 b7 h0 t1 D C hJ;go_wp2_with (first|(go_at_call 136;(with_reducible refine(M X S.model).mono ?_);rintro r q ⟨rfl,j,hm,V,b2⟩));have ba:=H X q j bi S hm V b2;obtain⟨⟨bj,R,bg⟩,b1⟩:=ba;have b8:¬ foot s sl E:=by
   have bq:=hE.out;rintro(e|e)
   ·omega
   have:=bh E e;omega
  have O:q.cell? ⟨E,5,.none⟩=some (.int .i64 e.at'):=by have:=V.block E b6 b8;simp only[World.cell?,this]at z ⊢;exact z
  have bw:E<q.heap.size:=HD O;have G:RrP q pb J.ps:=R.row;have bx:pb<q.heap.size:=G.lt;have b9:E≠pb:=by have:=hE.out;omega
  have F:RpAt q pb o p:=I.out ▸ (G.pt i hi hp.out);have p3:=F.c3;have p9:=F.c9;have pf:=F.fr;have L:RrP q pb (J.ps.set i p):=by rw[<-hp,List.set_getElem_self];exact G
  have z0:=RrP.put (q':= {p with took:=true}) hi 3 (.bool true) (Only.refl (atR pb) q) L rfl (by omega);have z1:=RrP.put (q':= {p with took:=true,at':=e.at'}) hi 9 (.int .i64 e.at') z0.1 z0.2 rfl (by omega);rw[<-I]at z1;have U:Hid (∀ W3,RrP W3 pb (J.ps.set i {p with took:=true,at':=e.at'})->Only (atR pb) q W3->vC B w W3 jb s pb sl {J with l:=putB J.l e.at' e.n,ps:=J.ps.set i {p with took:=true,at':=e.at'}}):=hd' fun W3 hr b5=>⟨⟨bj,R.setP (by rw[List.length_set]) hr b5,bg⟩,b1.trans b5 fun k _ e=>.inr (.inl e)⟩;replace z1:=hd' z1;clear z0 L F G R hm V b2 b1 H M S z b6;have b4:Hid (∀ (Y:World) (a:Nat) (v:Value),Y.cell? ⟨E,5,.none⟩=some (.int .i64 e.at')->(Y.setCell ⟨pb,a,.none⟩ v).cell? ⟨E,5,.none⟩=some (.int .i64 e.at')):=hd' fun Y a v h=>by have:=heap_setCell_other Y ⟨pb,a,.none⟩ E v (by simpa using b9);simp only[World.cell?,this]at h ⊢;exact h
  have b3:Hid (∀ (Y:World) (a:Nat) (v:Value),Y.cell? ⟨E,5,.none⟩=some (.int .i64 e.at')->(Y.setCell ⟨pb,a,.none⟩ v).drew.cell? ⟨E,5,.none⟩=some (.int .i64 e.at')):=hd' fun Y a v h=>b4 Y a v h
  go_region_held3 (fun Y=>Y.cell? ⟨E,5,.none⟩=some (.int .i64 e.at'))
   (first|exact b3 _ _ _ O|exact b3 _ _ _ (b4 _ _ _ O)|go_keep)
   (fail)
  go_wp2;go_ret;exact⟨rfl,U _ z1.out.2 z1.out.1.drew⟩
theorem yna{B:Nat}{w:World}{jb s pb:Nat}{sl:Value}{J:Jd}(h:JrA B w jb s pb sl J)(e:Ev)(i o:Nat)(p:Pt)(hi:i<J.ps.length)(hp:J.ps[i]=p)(D:o=i*10)(S:e.k=4/\(p.k=2\/p.k≠2/\p.k=3)/\p.gave=false/\e.at'=p.a/\OA e.at' J.l=true):
  Calls Tryz.prog 112 #[some jb,.pointer (some ⟨pb,o,.none⟩),e.val] w fun r w'=>r= .returned (.int .i64 0)/\vC B w w' jb s pb sl {J with l:=UA J.l e.at',ps:=J.ps.set i {p with gave:=true}}:=by
 obtain⟨O,S,hg,b0,b2⟩:=S;replace O:=hd' O;have bc:(e.at' !=p.a)=false:=by simpa using b0
 clear b0;unfold Ev.val Ev.cells;have I:=(Below.refl w.heap.size w).alloc lr (.cells #[e.k,e.c,e.ok,e.oa,e.on,e.at',e.n,e.er] 68);have t1:=jA w (.cells #[e.k,e.c,e.ok,e.oa,e.on,e.at',e.n,e.er] 68);have Y:=h.below I;obtain⟨bf,c0,c1,c2,c3,c4,c5,c6,c7,c8,c9,b8⟩:=D ▸ (Y.row.pt i hi hp);replace D:=hd' D;replace hp:=hd' hp;replace hi:=hd' hi;have bg:=h.lt;have bh:=h.row.lt;have bi:=h.model.lt;have bm:∀ k,sl.ownBlock=some k->k<w.heap.size:=fun k S=>(h.model.owns.lt k S).2;have C:Hid (∀ X,RM B X s sl J.W J.l->jK 137 #[some s,e.at'] X fun r w'=>r= .returned (.bool true)/\∃ j,RM B w' s j J.W (UA J.l e.at')/\Only (foot s sl) X w'/\∀ k,foot s j k->foot s sl k\/X.heap.size<=k):=hd' fun X hX=>by have:=yoh hX e.at';rwa [b2]at this
 have z:Hid (∀ X m j,jW w X->JrA B X jb s pb sl J->RM B m s j J.W (UA J.l e.at')->Only (foot s sl) X m->(∀ k,foot s j k->foot s sl k\/X.heap.size<=k)->vC B w m jb s pb sl {J with l:=UA J.l e.at'}):=hd' fun X m j hw hj hm D hf=>vC.lower hw ⟨⟨j,hj.setM hm D hf,fun k e=>by
  rcases hf k (.inr e) with(h1|h1)|h1
  ·exact absurd (h1 ▸ e) hm.apart
  ·exact .inl h1
  ·exact .inr h1⟩,D.mono' fun k e=>.inr (.inr e)⟩
 clear b2;rcases S with S|⟨bj,bk⟩;all_goals
  go_in;go_upto_region 1 with fail;generalize w.alloc (.cells #[e.k,e.c,e.ok,e.oa,e.on,e.at',e.n,e.er] 68)=W at *;obtain⟨E,hE,U⟩:=hidv w.heap.size;rw[<-U]at t1 ⊢;have e0:W.cell? ⟨E,0,.none⟩=some (.int .i64 e.k):=iA t1 0;rw[O]at e0;have e5:W.cell? ⟨E,5,.none⟩=some (.int .i64 e.at'):=iA t1 5;have b4:=iA t1;have h0:=Y.h0;have lj:jb<W.heap.size:=Y.lt;have lE:E<W.heap.size:=(jE t1);clear U;go_upto_region 14 with fail;go_quiet (fail);have M:Below w.heap.size w (W.drewN nq):=below_drewN I nq;have q:JrA B (W.drewN nq) jb s pb sl J:=Y.below (below_drewN br nq);have p4:(W.drewN nq).cell? ⟨pb,o+4,.none⟩=some (.bool p.gave):=c4;have T:(W.drewN nq).cell? ⟨E,5,.none⟩=some (.int .i64 e.at'):=e5;have b5:=q.h0;clear c0 c1 c2 c3 c4 c5 c6 c7 c8 c9 b8 e0 e5 b4 h0 t1 I Y lj lE;generalize W.drewN nq=V at *;have lj:jb<V.heap.size:=q.lt;have lE:E<V.heap.size:=HD T;go_upto_region 16 with fail;refine wret 6 ?_;repeat (go_big_quiet_step (fail))
  refine wqn fun X b7=>?_;have L:=b7;have ba:=M.trans (L.mono M.size);have H:=q.below L;clear q M T b5 p4 L;go_upto_region 18 with(first|(go_at_call 137;(with_reducible refine(C X H.model).mono ?_);rintro r m ⟨rfl,j,hm,b3,b1⟩));have b6:=z X m j ba H hm b3 b1;obtain⟨⟨bb,G,b9⟩,Z⟩:=b6;have y:RrP m pb J.ps:=G.row;have bn:pb<m.heap.size:=y.lt;have R:RpAt m pb o p:=D.out ▸ (y.pt i hi hp.out);have p4:=R.c4;have pf:=R.fr;have F:RrP m pb (J.ps.set i p):=by rw[<-hp,List.set_getElem_self];exact y
  have z0:=RrP.put (q':= {p with gave:=true}) hi 4 (.bool true) (Only.refl (atR pb) m) F rfl (by omega);rw[<-D]at z0;have hL:vC B w (m.setCell ⟨pb,o+4,.none⟩ (.bool true)) jb s pb sl {J with l:=UA J.l e.at',ps:=J.ps.set i {p with gave:=true}}:=⟨⟨bb,G.setP (by rw[List.length_set]) z0.2 z0.1,b9⟩,Z.trans z0.1 fun k _ e=>.inr (.inl e)⟩;clear y G hm b3 b1 Z z C H R z0 F;go_wp2;go_ret;exact⟨rfl,hL⟩
theorem yoc{B:Nat}{w:World}{jb s pb:Nat}{sl:Value}{J:Jd}(h:JrA B w jb s pb sl J)(e:Ev)(i o:Nat)(p:Pt)(hi:i<J.ps.length)(H:J.ps[i]=p)(G:o=i*10)(Z:e.k=5/\WB p e=true):
  Calls Tryz.prog 112 #[some jb,.pointer (some ⟨pb,o,.none⟩),e.val] w fun r w'=>r= .returned (.int .i64 0)/\vC B w w' jb s pb sl {J with l:=J.l,ps:=J.ps.set i {p with asks:=false}}:=by
 obtain⟨m,M⟩:=Z;replace m:=hd' m;unfold Ev.val Ev.cells;have j:=(Below.refl w.heap.size w).alloc lr (.cells #[e.k,e.c,e.ok,e.oa,e.on,e.at',e.n,e.er] 68);have t1:=jA w (.cells #[e.k,e.c,e.ok,e.oa,e.on,e.at',e.n,e.er] 68);have F:=h.below j;obtain⟨b0,c0,c1,c2,c3,c4,c5,c6,c7,c8,c9,Y⟩:=G ▸ (F.row.pt i hi H);replace G:=hd' G;replace H:=hd' H;replace hi:=hd' hi;have b1:=h.lt;have b2:=h.row.lt;have b3:=h.model.lt;have b4:∀ k,sl.ownBlock=some k->k<w.heap.size:=fun k Z=>(h.model.owns.lt k Z).2;have O:Hid (∀ X,RpAt X pb o p->jK 138 #[.pointer (some ⟨pb,o,.none⟩),.agg #[.int .i64 5,e.c,e.ok,e.oa,e.on,e.at',e.n,e.er]] X fun r w'=>r= .returned (.bool true)/\Below X.heap.size X w'):=hd' fun X hX=>by have:=yl2 p e pb o X hX;unfold Ev.val Ev.cells at this;rwa [M,m.out]at this
 clear M;go_in;go_upto_region 1 with fail;generalize w.alloc (.cells #[e.k,e.c,e.ok,e.oa,e.on,e.at',e.n,e.er] 68)=W at *;obtain⟨E,hE,L⟩:=hidv w.heap.size;rw[<-L]at t1 ⊢;have e0:W.cell? ⟨E,0,.none⟩=some (.int .i64 e.k):=iA t1 0;rw[m]at e0;have U:=iA t1;have h0:=F.h0;have lj:jb<W.heap.size:=F.lt;have lE:E<W.heap.size:=(jE t1);clear L;have V:=iA t1;have y:RpAt W pb o p:=G.out ▸ (F.row.pt i hi H.out);go_upto_region 5 with(first|(go_at_call 138;refine(O _ y).mono ?_;rintro r I ⟨rfl,S⟩));have C:=F.below S;have R:=j.trans (S.mono j.size);have q:RrP I pb J.ps:=C.row;have b5:pb<I.heap.size:=q.lt;have D:RpAt I pb o p:=G.out ▸ (q.pt i hi H.out);have p2:=D.c2;have pf:=D.fr;have z:RrP I pb (J.ps.set i p):=by rw[<-H,List.set_getElem_self];exact q
 have T:=RrP.put (q':= {p with asks:=false}) hi 2 (.bool false) (Only.refl (atR pb) I) z rfl (by omega);rw[<-G]at T;have hL:vC B w (I.setCell ⟨pb,o+2,.none⟩ (.bool false)) jb s pb sl {J with l:=J.l,ps:=J.ps.set i {p with asks:=false}}:=⟨⟨sl,C.setP (by rw[List.length_set]) T.2 T.1,fun k e=>.inl e⟩,(Only.of_below R).trans T.1 fun k _ e=>.inr (.inl e)⟩;clear q C D T z y c0 c1 c2 c3 c4 c5 c6 c7 c8 c9 Y e0 V U h0 t1 j F;go_wp2;go_ret;exact⟨rfl,hL⟩
theorem ymt{B:Nat}{w:World}{jb s pb:Nat}{sl:Value}{J:Jd}(h:JrA B w jb s pb sl J)(e:Ev){i:Nat}{p v:Pt}{l':List Bk}(hi:i<J.ps.length)(b8:J.ps.length<=100)(hc:e.c=(i:Int))(Z:J.ps[i]=p)(T:Fine J.W J.l p e l' v):
  Calls Tryz.prog 73 #[some jb,e.val] w fun r w'=>r= .returned (.int .i64 0)/\vC B w w' jb s pb sl {J with l:=l',ps:=J.ps.set i v}:=by
 obtain⟨ek,ec,C,G,en,S,z,er⟩:=e;have R:=T.kinds;dsimp only at hc R;subst hc;unfold Ev.val Ev.cells;dsimp only;have O:=(Below.refl w.heap.size w).alloc lr (.cells #[ek,.int .i64 (i:Int),C,G,en,S,z,er] 68);have t1:=jA w (.cells #[ek,.int .i64 (i:Int),C,G,en,S,z,er] 68);have q:=h.below O;obtain⟨n,hn,b5⟩:=hidv J.ps.length;have bk:(i:Int)<(n:Int):=by omega
 have bi:(0:Int)<=(i:Int):=by omega
 have b7:¬ (i:Int)>=(n:Int):=by omega
 have bj:¬ (i:Int)<0:=by omega
 have b6:n<=100:=by omega
 clear b5;obtain⟨E,hE,b0⟩:=hidv w.heap.size;replace hi:=hd' hi;replace Z:=hd' Z;go_in;go_upto_region 1 with fail;generalize w.alloc (.cells #[ek,.int .i64 (i:Int),C,G,en,S,z,er] 68)=W at *;rw[<-b0]at t1 ⊢;clear b0;have hK:Hid (∀ X,jW W X->JrA B X jb s pb sl J/\X.heap[E]?=some (.cells #[ek,.int .i64 (i:Int),C,G,en,S,z,er] 68)/\X.cell? ⟨jb,1,.none⟩=some (.slice (some ⟨pb,0,.none⟩) n n)):=hd' fun X hX=>⟨q.below hX,(hX.block _ (jE t1)).trans t1,by rw[hn];exact(q.below hX).h1⟩;clear q t1;obtain⟨q,t1,h1⟩:=hK W br;have b3:=iA t1;go_quiet (fail);have Y:Below W.heap.size W (W.drewN nq):=below_drewN br nq;generalize W.drewN nq=V at *;clear b3 h1 t1 q;obtain⟨q,t1,h1⟩:=hK V Y;have b4:=iA t1;go_upto_region 3 with fail;go_quiet (fail);have H:Below W.heap.size W (V.drewN nq):=below_drewN Y nq;generalize V.drewN nq=U at *;clear b4 h1 t1 q;obtain⟨q,t1,_⟩:=hK U H;have b1:Below w.heap.size w U:=O.trans (H.mono O.size);clear Y H hK O;have j:=q.row.pt i hi Z.out;have bb:=iA t1;go_upto_region 6 with fail;have m:Hid (∀ W3 v,RrP W3 pb (J.ps.set i v)->Only (atR pb) U W3->vC B w W3 jb s pb sl {J with l:=J.l,ps:=J.ps.set i v}):=hd' fun W3 v hr b2=>⟨⟨sl,q.setP (by rw[List.length_set]) hr b2,fun k e=>.inl e⟩,(Only.of_below b1).trans b2 fun k _ e=>.inr (.inl e)⟩;have o:RrP U pb (J.ps.set i p):=by rw[<-Z,List.set_getElem_self];exact q.row
 have lp:pb<U.heap.size:=q.row.lt;have y:Hid (∀ w' JR,vC B U w' jb s pb sl JR->vC B w w' jb s pb sl JR):=hd' fun w' JR I=>vC.lower b1 I;rcases R with⟨rfl,hw,rfl,rfl⟩|⟨rfl,I,ht,rfl,rfl⟩|⟨rfl,I,F,bm,bn,rfl,rfl⟩|⟨rfl,I,F,R⟩|⟨rfl,I,F,R⟩|⟨rfl,I,F,R,rfl,rfl⟩
 ·have c0:=j.c0;have c1:=j.c1;have pf:=j.fr;rw[hw]at c0;have L:=RrP.put (q':= {p with was:=true}) hi 0 (.bool true) (Only.refl (atR pb) U) o rfl (by omega);have M:=RrP.put (q':= {p with was:=true,lives:=true}) hi 1 (.bool true) L.1 L.2 rfl (by omega);have D:=hd' (m _ _ M.2 M.1);rw[Nat.add_zero]at D;clear L M o m y q j t1 T;go_wp2;go_returns;exact⟨rfl,D.out⟩
 ·have c1:=j.c1;have c2:=j.c2;have c3:=j.c3;have pf:=j.fr;rw[I]at c1;have L:=RrP.put (q':= {p with lives:=false}) hi 1 (.bool false) (Only.refl (atR pb) U) o rfl (by omega);have M:=RrP.put (q':= {p with lives:=false,asks:=false}) hi 2 (.bool false) L.1 L.2 rfl (by omega);have D:=hd' (m _ _ M.2 M.1);clear L M o m y q j t1 T;rcases jB p.asks with F|F
  ·rw[ht F]at c3;rw[F]at c2;clear ht;go_wp2;go_returns;exact⟨rfl,D.out⟩
  rw[F]at c2;clear ht;go_wp2;go_returns;exact⟨rfl,D.out⟩
 ·obtain⟨_,c0,c1,c2,c3,c4,c5,c6,c7,c8,c9,pf⟩:=id j;rw[I]at c1;rw[F]at c2;have bc:=iA t1;have b9:¬ C<1:=by omega
  have ba:¬ 4<C:=by omega
  have L:=RrP.put (q':= {p with was:=true}) hi 0 (.bool true) (Only.refl (atR pb) U) o rfl (by omega);have M:=RrP.put (q':=⟨true,true,p.asks,p.k,p.a,p.n,p.took,p.gave,p.at',p.ab⟩) hi 1 (.bool true) L.1 L.2 rfl (by omega);have z2:=RrP.put (q':=⟨true,true,true,p.k,p.a,p.n,p.took,p.gave,p.at',p.ab⟩) hi 2 (.bool true) M.1 M.2 rfl (by omega);have z3:=RrP.put (q':=⟨true,true,true,p.k,p.a,p.n,false,p.gave,p.at',p.ab⟩) hi 3 (.bool false) z2.1 z2.2 rfl (by omega);have z4:=RrP.put (q':=⟨true,true,true,p.k,p.a,p.n,false,false,p.at',p.ab⟩) hi 4 (.bool false) z3.1 z3.2 rfl (by omega);have z5:=RrP.put (q':=⟨true,true,true,p.k,p.a,p.n,false,false,p.at',false⟩) hi 5 (.bool false) z4.1 z4.2 rfl (by omega);have z6:=RrP.put (q':=⟨true,true,true,C,p.a,p.n,false,false,p.at',false⟩) hi 6 (.int .i64 C) z5.1 z5.2 rfl (by omega);have z7:=RrP.put (q':=⟨true,true,true,C,G,p.n,false,false,p.at',false⟩) hi 7 (.int .i64 G) z6.1 z6.2 rfl (by omega);have z8:=RrP.put (q':=⟨true,true,true,C,G,en,false,false,p.at',false⟩) hi 8 (.int .i64 en) z7.1 z7.2 rfl (by omega);have z9:=RrP.put (q':=⟨true,true,true,C,G,en,false,false,0,false⟩) hi 9 (.int .i64 0) z8.1 z8.2 rfl (by omega);have D:=hd' (m _ _ z9.2 z9.1);rw[Nat.add_zero]at D;clear L M z2 z3 z4 z5 z6 z7 z8 z9 o m y q j t1 T;go_wp2;go_returns;exact⟨rfl,D.out⟩
 ·have c1:=j.c1;have c2:=j.c2;rw[I]at c1;rw[F]at c2;obtain⟨k1,k2,k3,k4,k5,rfl,rfl⟩:=R;have hd:=yod q ⟨3,(i:Int),C,G,en,S,z,er⟩ i (i*10) p hi Z rfl ⟨rfl,k1,k2,k3,k4,k5⟩;unfold Ev.val Ev.cells at hd;dsimp only at hd;replace hd:=hd' hd;clear k1 k2 k3 k4 k5;have bf:=iA t1;clear o m q j t1 T;go_wp2_with (first|(go_at_call 112;(with_reducible refine hd.out.mono ?_);rintro r w2 ⟨rfl,D⟩));go_returns;exact⟨rfl,y _ _ D⟩
 ·have c1:=j.c1;have c2:=j.c2;rw[I]at c1;rw[F]at c2;obtain⟨k1,k2,k3,k4,rfl,rfl⟩:=R;have hd:=yna q ⟨4,(i:Int),C,G,en,S,z,er⟩ i (i*10) p hi Z rfl ⟨rfl,k1,k2,k3,k4⟩;unfold Ev.val Ev.cells at hd;dsimp only at hd;replace hd:=hd' hd;clear k1 k2 k3 k4;have bg:=iA t1;clear o m q j t1 T;go_wp2_with (first|(go_at_call 112;(with_reducible refine hd.out.mono ?_);rintro r w2 ⟨rfl,D⟩));go_returns;exact⟨rfl,y _ _ D⟩
 have c1:=j.c1;have c2:=j.c2;rw[I]at c1;rw[F]at c2;have hd:=yoc q ⟨5,(i:Int),C,G,en,S,z,er⟩ i (i*10) p hi Z rfl ⟨rfl,R⟩;unfold Ev.val Ev.cells at hd;dsimp only at hd;replace hd:=hd' hd;have bh:=iA t1;clear o m q j t1 T;go_wp2_with (first|(go_at_call 112;(with_reducible refine hd.out.mono ?_);rintro r w2 ⟨rfl,D⟩));go_returns;exact⟨rfl,y _ _ D⟩
def mapR (f:Pt->Pt) (i:Nat) (ps:List Pt):List Pt:=(ps.take i).map f ++ ps.drop i
theorem VN(f:Pt->Pt)(i:Nat)(ps:List Pt):(mapR f i ps).length=ps.length:=by
 unfold mapR;rw[List.length_append,List.length_map,List.length_take,List.length_drop];omega
theorem ync(f:Pt->Pt)(ps:List Pt):mapR f 0 ps=ps:=by simp[mapR]
theorem ypv(f:Pt->Pt)(ps:List Pt):mapR f ps.length ps=ps.map f:=by simp[mapR]
theorem ypm(f:Pt->Pt)(i:Nat)(ps:List Pt)(h:i<ps.length):(mapR f i ps)[i]'(by rw[VN];exact h)=ps[i]:=by
 unfold mapR;have j:((ps.take i).map f).length=i:=by rw[List.length_map,List.length_take];omega
 rw[List.getElem_append_right (by omega),List.getElem_drop];congr 1;omega
theorem ynv(f:Pt->Pt)(i:Nat)(ps:List Pt)(h:i<ps.length):mapR f (i+1) ps=(mapR f i ps).set i (f ps[i]):=by
 unfold mapR;have j:((ps.take i).map f).length=i:=by rw[List.length_map,List.length_take];omega
 rw[List.set_append_right _ _ (by omega),j,Nat.sub_self];have h1:ps.drop i=ps[i]::ps.drop (i+1):=(List.getElem_cons_drop h).symm;rw[h1,List.set_cons_zero];have h2:ps.take (i+1)=ps.take i++[ps[i]]:=List.take_succ_eq_append_getElem h;rw[h2,List.map_append,List.append_assoc];rfl
def Tw2 (w:World) (N:Nat) (a b:Int):Prop:=w.heap[N]?=some (.cells #[a,b] 142 (0,0))
section

variable {w w':World} {N:Nat} {a b:Int}

theorem Tw2.below(h:Tw2 w N a b)(hb:Below w.heap.size w w'):Tw2 w' N a b:=(hb.block N (jE h)).trans h
end

theorem yoo(l:List Bk)(a:Int):∃ x y:Int,blkV (atB l a)= .tuple #[.agg #[x,y],.bool (OA a l)]:=by
 unfold atB;rcases jB (OA a l) with hb|hb
 ·rw[jP hb,hb];obtain⟨h1,h2⟩:=(uG a l).1 hb;rw[List.getElem?_eq_getElem h1];exact⟨_,_,rfl⟩
 rw[jN (by rw[hb];decide),hb];exact⟨0,0,rfl⟩
theorem ynp{B:Nat}{w:World}{jb s pb:Nat}{sl:Value}{J:Jd}(h:JrA B w jb s pb sl J)(e:Ev)(hb:cF J e=true)(hm:0<=J.m/\J.m<=1000000000)(hn:J.ps.length<=100):
  Calls Tryz.prog 36 #[some jb,e.val] w fun r w'=>r= .returned (.bool true)/\vC B w w' jb s pb sl (CA J e):=by
 obtain⟨T,bi⟩:=(CI J e).1 hb;rw[KK hb];replace T:=hd' T;obtain⟨ix,p0,v0,q,bk,bj,bu,hF,bq,b1⟩:=yp5 bi;rw[bq,b1];clear bq b1 bi hb;have bg:=(Below.refl w.heap.size w).alloc lr (.cells #[e.k,e.c,e.ok,e.oa,e.on,e.at',e.n,e.er] 68);have t1:=jA w (.cells #[e.k,e.c,e.ok,e.oa,e.on,e.at',e.n,e.er] 68);have hJ:=h.below bg;obtain⟨E,hE,bc⟩:=hidv w.heap.size;have R:=ymt hJ e bk hn bj bu hF;have c9:(J.ps.set ix v0).length=J.ps.length:=List.length_set;generalize J.ps.set ix v0=j at *;clear hF bj bu bk;unfold Ev.val Ev.cells at R ⊢;have h4:=hJ.h4;rw[T]at h4;replace R:=hd' R;go_in;go_upto_region 1 with fail;generalize w.alloc (.cells #[e.k,e.c,e.ok,e.oa,e.on,e.at',e.n,e.er] 68)=W at *;rw[<-bc]at t1 ⊢;have bv:=iA t1;clear bc;go_upto_region 5 with(first|(go_at_call 73;(with_reducible refine R.out.mono ?_);rintro r w2 ⟨rfl,hL⟩));obtain⟨⟨y,bf,bp⟩,bz⟩:=hL;clear hJ t1 bv h4 R;obtain⟨V,rfl⟩:∃ V:World,V=w2:=⟨_,rfl⟩;have b2:JrA B V jb s pb y {J with l:=q,ps:=j}:=bf;have g1:V.cell? ⟨jb,1,.none⟩=some (rvV pb j.length):=b2.h1;obtain⟨n,b7,b0⟩:=hidv j.length;have c8:n<=100:=by omega
 rw[<-b0]at g1;unfold rvV at g1;clear b0 c9 bf;have U:Hid (∀ wr,JrA B wr jb s pb y {J with l:=q,ps:=j.map (abP q),m:=J.m+1}->Only (SG jb s pb y) V wr->vC B w wr jb s pb sl {J with l:=q,ps:=j.map (abP q),m:=J.m+1}):=hd' fun wr C ho=>by
  refine vC.lower bg ⟨⟨y,C,bp⟩,bz.trans ho fun k hk e=>?_⟩;rcases e with e|e|e|e
  ·exact .inl e
  ·exact .inr (.inl e)
  ·exact .inr (.inr (.inl e))
  rcases bp k e with h1|h1
  ·exact .inr (.inr (.inr h1))
  omega
 go_wp2_with fail;go_loopw [6] (fun vi wr=>∃ i:Nat,i<=n/\vi= .int .i64 i/\JrA B wr jb s pb y {J with l:=q,ps:=mapR (abP q) i j}/\Only (SG jb s pb y) V wr) (fun vi _=>n-(intOf vi).toNat);case atStart=>exact⟨0,Nat.zero_le _,rfl,by rw[ync];exact b2,Only.refl _ _⟩
 case round=>
  clear g1 b2;obtain⟨i,hi,rfl,C,ho⟩:=hrel;obtain⟨Y,rfl⟩:∃ V:World,V=wr:=⟨_,rfl⟩;have y1:Y.cell? ⟨jb,1,.none⟩=some (.slice (some ⟨pb,0,.none⟩) n n):=by have:=C.h1;unfold rvV at this;rw[show ({J with l:=q,ps:=mapR (abP q) i j}:Jd).ps.length=j.length from VN _ _ _,<- b7]at this;exact this
  by_cases c6:i<n
  ·have ca:(i:Int)<(n:Int):=by omega
   have cc:(0:Int)<=(i:Int):=by omega
   have cf:IntKind.i64.wrap ((i:Int)+1)=(i:Int)+1:=IntWalk.i64_in _ ⟨by omega,by omega⟩;have b5:i<j.length:=by have:=b7.out;omega
   have M:i<(mapR (abP q) i j).length:=by rw[VN];exact b5
   have I:RrP Y pb (mapR (abP q) i j):=C.row;obtain⟨p,hp⟩:∃ p,j[i]=p:=⟨_,rfl⟩;have D:=ypm (abP q) i j b5;rw[hp]at D;have b9:=I.pt i M D;have y0:=C.h0;have O:=ynv (abP q) i j b5;rw[hp]at O;have L:=fun X (hX:Below Y.heap.size Y X)=>yqz (C.below hX).model p.a;obtain⟨bx,bn,b3⟩:=yoo q p.a;dsimp only at L b3;rw[b3]at L;replace L:=hd' L;have y4:=b9.c7;have lj:jb<Y.heap.size:=C.lt;have lp:pb<Y.heap.size:=b9.lt;replace D:=hd' D;replace O:=hd' O;replace hp:=hd' hp;clear b3;go_upto_region 8 with fail;go_cut [7,8] (fun vx vo wx=>(∃ N:Nat,vx= .pointer (some ⟨N,0,.none⟩))/\vo= .bool (OA p.a q)/\Below Y.heap.size Y wx);case first=>
    have hK:Hid (∀ X,jW Y X->X.cell? ⟨jb,0,.none⟩=some (.pointer (some ⟨s,0,.none⟩))/\X.cell? ⟨jb,1,.none⟩=some (.slice (some ⟨pb,0,.none⟩) n n)/\X.cell? ⟨pb,i*10+7,.none⟩=some (.int .i64 p.a)):=hd' fun X hb=>⟨kA hb _ _ _ y0,kA hb _ _ _ y1,kA hb _ _ _ y4⟩
    go_region_held3 (fun X=>X.cell? ⟨jb,0,.none⟩=some (.pointer (some ⟨s,0,.none⟩))/\X.cell? ⟨jb,1,.none⟩=some (.slice (some ⟨pb,0,.none⟩) n n)/\X.cell? ⟨pb,i*10+7,.none⟩=some (.int .i64 p.a))
     (first|exact hK _ (by go_grown))
     (first|(go_at_call 74;(with_reducible refine(L _ (by go_grown)).mono ?_);rintro r w4 ⟨rfl,bh⟩;have bw:=zA (w:=Y) (by go_grown) bh;have cb:=bw.size;try (have hz:=Tw2.below (N:=Y.heap.size) (a:=0) (b:=0) (jA Y.drew (.cells #[.int .i64 0,.int .i64 0] 142)) bh;have z0:=iA hz 0;have z1:=iA hz 1;have zF:=DA hz)))
    all_goals (go_wp2_with fail;go_meet)
    all_goals exact⟨⟨_,rfl⟩,rfl,by go_grown⟩
   case rest=>
    obtain⟨⟨N,rfl⟩,rfl,S⟩:=hcut;obtain⟨Z,rfl⟩:∃ V:World,V=wc:=⟨_,rfl⟩;have b6:=C.below S;have b8:Only (SG jb s pb y) V Z:=ho.trans (Only.of_below (F:=fun _=>False) S) fun _ _ e=>e.elim;have ba:RrP Z pb (mapR (abP q) i j):=I.of_block (S.block _ I.lt);have H:RpAt Z pb (i*10) p:=ba.pt i M D.out;have y1:=kA S _ _ _ y1;have y2:=H.c2;have y5:=H.c5;have yf:=H.fr;have o:abP q p=p->∃ G:Nat,G<=n/\Value.int .i64 ((i:Int)+1)= .int .i64 G/\JrA B Z jb s pb y {J with l:=q,ps:=mapR (abP q) G j}/\Only (SG jb s pb y) V Z:=fun e=>by
     refine⟨i+1,by omega,by go_num,?_,b8⟩;have:mapR (abP q) (i+1) j=mapR (abP q) i j:=by rw[O,e,<- D,List.set_getElem_self]
     rw[this];exact b6
    have z:abP q p= {p with ab:=true}->∃ G:Nat,G<=n/\Value.int .i64 ((i:Int)+1)= .int .i64 G/\JrA B (Z.setCell ⟨pb,i*10+5,.none⟩ (.bool true)) jb s pb y {J with l:=q,ps:=mapR (abP q) G j}/\Only (SG jb s pb y) V (Z.setCell ⟨pb,i*10+5,.none⟩ (.bool true)):=fun e=>by
     have bb:RrP Z pb ((mapR (abP q) i j).set i p):=by rw[<-D,List.set_getElem_self];exact ba
     have z0:=RrP.put (q':= {p with ab:=true}) M 5 (.bool true) (Only.refl (atR pb) Z) bb rfl (by omega);refine⟨i+1,by omega,by go_num,?_,b8.trans z0.1 fun k _ e=>.inr (.inl e)⟩;rw[O,e];exact b6.setP (qs:=(mapR (abP q) i j).set i {p with ab:=true}) (by rw[List.length_set]) z0.2 z0.1
    replace o:=hd' o;replace z:=hd' z;clear b6 b8 ba H I b9 C ho L y4 y0;rcases jB (OA p.a q) with b4|b4
    ·have hh:=hd' (o (by unfold abP;rw[jN (by rw[b4];simp)]));clear o z;go_wp2;all_goals exact⟨hh.out,by simp[intOf];omega⟩
    rcases jB p.asks with has|has
    ·have hh:=hd' (z (by unfold abP;rw[jP ⟨b4,has⟩]));clear o z;go_wp2;exact⟨hh.out,by simp[intOf];omega⟩
    have hh:=hd' (o (by unfold abP;rw[jN (by rw[has];simp)]));clear o z;go_wp2;exact⟨hh.out,by simp[intOf];omega⟩
  have c4:i=n:=by omega
  subst c4;rw[b7,ypv]at C;obtain⟨bm,bs⟩:=C.setN (J.m+1);have hL:=hd' (U _ bm (ho.trans bs fun k _ e=>.inl e));have y2:=C.h2;have y4:=C.h4;have yf:=C.fr;dsimp only at y2 y4;rw[T]at y4;have wm:=wrp (J.m+1);have cd:¬ (i:Int)<(i:Int):=by omega
  have lj:jb<Y.heap.size:=C.lt;clear C ho U bm bs c6;go_wp2;go_ret;exact⟨rfl,hL.out⟩
end

end Go.Proofs.YtmmbicppdjgbmaaGreat
