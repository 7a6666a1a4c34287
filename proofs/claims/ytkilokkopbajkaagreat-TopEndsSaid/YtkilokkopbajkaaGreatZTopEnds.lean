/- Whatever shape and choices,the law TopEnds answers true: a heap in which all blocks are given back and all magazines are adopted has room for as much as it had at the beginning. -/
import Derived.Test.YtkilokkopbajkaaGreatBw46

set_option linter.all false
set_option maxHeartbeats 4000000
set_option maxRecDepth 100000
namespace Go.Proofs.YtkilokkopbajkaaGreat

open RowKit Go.ChangeShapes Go.WideShapes Go.ChangeAt

theorem yk9(os:Os)(l:os.Started)(H:Type)(enc:TypeId×Value->H):
  ReturnsInHanded {} Tryz.checked os 6 .any (Rows.topEndsSpec.pre6 enc Tryz.prog Tryz.f6 Rows.topEndsRow.domain false) (Rows.topEndsSpec.post enc Tryz.prog Tryz.f6 false true false false):=by
 refine returnsInHanded_of_change_sized (C:=Tryz.checked) own l (by kernel_rfl) Tryz.func6
  (ChangeSpec.witness6 (enc:=enc) (C:=Tryz.checked) false ⟨#[],#[.agg #[.int .i64 0,.int .i64 0,.int .i64 0],.slice none 0 0],[]⟩ 8 (by kernel_rfl) (by kernel_rfl) (by kernel_rfl) (by kernel_rfl)) ?_
 intro W base args D J o i F _ m _;have z:(DataW.weightsEach Tryz.prog (Tryz.f6.params.toList++Rows.topEndsSpec.plain.varTypes Tryz.prog) (D++J)).all (·<=reachBytes)=true:=m;have b:∀(j:Nat) t v,Tryz.f6.params[j]?=some t->args[j]?=some v->Value.okWide Tryz.prog W .any base t v:=i;have s:=F;obtain⟨p,q,n,L,rfl,_,_⟩:=F;have E:DataW.TrodAll enc Tryz.prog W 0 (λ_=>true) true Tryz.f6.params.toList args.toList D p:=n;clear n i m;rw[Tryz.params6]at E b z;obtain⟨rfl,rfl⟩:=trodVars_none L;obtain⟨B,S,U,G,V,Y,y,rfl,rfl,h0,r0⟩:=trodAll_cons E;obtain⟨r,T,d1,I,X,q1,rfl,rfl,rfl,h1,r1⟩:=trodAll_cons r0;obtain⟨rfl,rfl,rfl⟩:=trodAll_nil r1;obtain rfl:args=#[B,r]:=by cases args;simp_all
 have key:jK 6 #[B,r] W λe W'=>e=.returned (.bool true)/\Below W.heap.size W W':=by obtain⟨sp,O,R,rfl,_,_,_⟩:=OO Tryz.underlying23 Tryz.underlying3 Tryz.underlying3 Tryz.underlying3 (by kernel_rfl) (by kernel_rfl) (by kernel_rfl) rfl rfl rfl (by kernel_rfl) (b 0 _ B rfl rfl) h0;obtain⟨xs,N⟩:=ST (b 1 _ r rfl rfl) h1;exact yot ⟨sp,O,R⟩ xs r W N
 exact key.mono λe W' ⟨M,hb⟩=>⟨_,M,SO laidOut (by kernel_rfl) Tryz.underlying4 rfl (by kernel_rfl) ⟨rfl,rfl,rfl⟩ s hb⟩
theorem LJ{P:Program}{b:String}{f n:Nat}(l:P.funcs.size=n)(h:∀i,i<n->(P.funcs[i]?).any (λg=>g.name==b)=(i==f))(j:(List.range n).filter (λi=>i==f)=[f]):P.funcNamed b=some f:=by
 unfold Program.funcNamed;rw[l,List.filter_congr (q:=λi=>i==f) (λi hi=>h i (List.mem_range.1 hi)),j]
theorem FD{P:Program}{b:String}{f:Nat}(a k:Nat)(h:(List.range' a k).all (λi=>(P.funcs[i]?).any (λg=>g.name==b)==(i==f))=true)(i:Nat)(h1:a<=i)(h2:i<a+k):(P.funcs[i]?).any (λg=>g.name==b)=(i==f):=
 eq_of_beq (List.all_eq_true.1 h i (List.mem_range'_1.2 ⟨h1,h2⟩))
theorem GJ:Tryz.prog.funcNamed "allotment/allotmenttop.TopEnds"=some 6:=by
 refine LJ (n:=332) (by kernel_rfl) (λi hi=>?_) (by kernel_rfl);by_cases h1:i<75
 .exact FD 0 75 (by as_aux_lemma=>kernel_rfl) i (by omega) (by omega)
 by_cases h2:i<150
 .exact FD 75 75 (by as_aux_lemma=>kernel_rfl) i (by omega) (by omega)
 by_cases h3:i<225
 .exact FD 150 75 (by as_aux_lemma=>kernel_rfl) i (by omega) (by omega)
 by_cases h4:i<300
 .exact FD 225 75 (by as_aux_lemma=>kernel_rfl) i (by omega) (by omega)
 exact FD 300 32 (by as_aux_lemma=>kernel_rfl) i (by omega) (by omega)
theorem BJ:joinedFacts Tryz.pinned.checked.prog 6 Tryz.f6 Rows.topEndsSpec Rows.topEndsRow=true:=by
 unfold joinedFacts;simp only[jC];repeat' apply And.intro
 all_goals (as_aux_lemma=>kernel_rfl)
theorem topEnds_holds:Rows.TopEndsSaid:=
 OpenClaim.holds_of_wide 6 Tryz.f6 rfl rfl rfl rfl rfl rfl rfl ⟨rfl,rfl,rfl,rfl,rfl⟩ rfl rfl rfl rfl rfl GJ Tryz.func6 BJ
  (of_decide_eq_true (by kernel_rfl)) (by unfold Func.isWrapper;first|(rw[jP (by decide +kernel)];kernel_rfl)|(rw[jN (by decide +kernel)];exact⟨rfl,rfl⟩))
  (λos b H enc _=>yk9 os b H enc)
end Go.Proofs.YtkilokkopbajkaaGreat
