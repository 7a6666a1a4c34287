/- Whatever shape, choices and numbers, the law TopChain answers true: whoever adopts is killed in the midst, and who adopts it, too; the last one frees all, and the history is in order. -/
import Derived.Test.YtedcnffebdpmmaaGreatBu40

set_option linter.all false
set_option maxHeartbeats 4000000
set_option maxRecDepth 100000
namespace Go.Proofs.YtedcnffebdpmmaaGreat

open Go.RowKit Go.ChangeShapes Go.WideShapes Go.ChangeAt

theorem topChain_lifted(os:Os)(l:os.Started)(H:Type)(enc:TypeId × Value->H):
  ReturnsInHanded {} Tryz.checked os 3 .any (Rows.topChainSpec.pre6 enc Tryz.prog Tryz.f3 Rows.topChainRow.domain false) (Rows.topChainSpec.post enc Tryz.prog Tryz.f3 false true false false):=by
 refine returnsInHanded_of_change_sized (C:=Tryz.checked) own l (by kernel_rfl) Tryz.func3
  (ChangeSpec.witness6 (enc:=enc) (C:=Tryz.checked) false ⟨#[], #[.agg #[.int .i64 0,.int .i64 0,.int .i64 0],.slice none 0 0,.slice none 0 0], []⟩ 8 (by kernel_rfl) (by kernel_rfl) (by kernel_rfl) (by kernel_rfl)) ?_
 intro W base args F N o i I _ m _;have B:(DataW.weightsEach Tryz.prog (Tryz.f3.params.toList++Rows.topChainSpec.plain.varTypes Tryz.prog) (F++N)).all (·<=reachBytes)=true:=m;have b:∀ (j:Nat) t v,Tryz.f3.params[j]?=some t->args[j]?=some v->Value.okWide Tryz.prog W .any base t v:=i;have y:=I;obtain⟨p,q,n,O,rfl,_,_⟩:=I;have G:DataW.TrodAll enc Tryz.prog W 0 (fun _=>true) true Tryz.f3.params.toList args.toList F p:=n;clear n i m;rw[Tryz.params3]at G b B;obtain⟨rfl,rfl⟩:=trodVars_none O;obtain⟨E,b0,d0,J,p0,q0,z,rfl,rfl,h0,r0⟩:=trodAll_cons G;obtain⟨r,b1,d1,L,p1,q1,rfl,rfl,rfl,h1,U⟩:=trodAll_cons r0;obtain⟨s,b2,d2,M,p2,q2,rfl,rfl,rfl,h2,V⟩:=trodAll_cons U;obtain⟨rfl,rfl,rfl⟩:=trodAll_nil V;obtain rfl:args= #[E,r,s]:=by cases args;simp_all
 have key:Calls Tryz.prog 3 #[E,r,s] W fun e W'=>e= .returned (.bool true)/\Below W.heap.size W W':=by obtain⟨sp,X,Y,rfl,_,_,_⟩:=z3u Tryz.underlying23 Tryz.underlying3 Tryz.underlying3 Tryz.underlying3 (by kernel_rfl) (by kernel_rfl) (by kernel_rfl) rfl rfl rfl (by kernel_rfl) (b 0 _ E rfl rfl) h0;obtain⟨xs,T⟩:=z6m (b 1 _ r rfl rfl) h1;obtain⟨Z,hu,D⟩:=yf7 Tryz.underlying25 Tryz.underlying42 (by kernel_rfl) (b 2 _ s rfl rfl) h2;exact chain_any ⟨sp,X,Y⟩ xs Z r s W T hu (fun a R=>u16_bd (D a R))
 exact key.mono fun e W' ⟨S,hb⟩=>⟨_,S,z6a laidOut (by kernel_rfl) Tryz.underlying4 rfl (by kernel_rfl) ⟨rfl,rfl,rfl⟩ y hb⟩
theorem z4t{P:Program}{b:String}{f n:Nat}(l:P.funcs.size=n)(h:∀ i,i<n->(P.funcs[i]?).any (fun g=>g.name==b)=(i==f))(j:(List.range n).filter (fun i=>i==f)= [f]):P.funcNamed b=some f:=by
 unfold Program.funcNamed;rw[l,List.filter_congr (q:=fun i=>i==f) (fun i hi=>h i (List.mem_range.1 hi)),j]
theorem zc7{P:Program}{b:String}{f:Nat}(a k:Nat)(h:(List.range' a k).all (fun i=>(P.funcs[i]?).any (fun g=>g.name==b)==(i==f))=true)(i:Nat)(h1:a<=i)(h2:i<a+k):(P.funcs[i]?).any (fun g=>g.name==b)=(i==f):=
 eq_of_beq (List.all_eq_true.1 h i (List.mem_range'_1.2 ⟨h1,h2⟩))
theorem z3e:Tryz.prog.funcNamed "allotment/allotmenttop.TopChain"=some 3:=by
 refine z4t (n:=310) (by kernel_rfl) (fun i hi=>?_) (by kernel_rfl);by_cases h1:i<75
 ·exact zc7 0 75 (by as_aux_lemma=>kernel_rfl) i (by omega) (by omega)
 by_cases h2:i<150
 ·exact zc7 75 75 (by as_aux_lemma=>kernel_rfl) i (by omega) (by omega)
 by_cases h3:i<225
 ·exact zc7 150 75 (by as_aux_lemma=>kernel_rfl) i (by omega) (by omega)
 by_cases h4:i<300
 ·exact zc7 225 75 (by as_aux_lemma=>kernel_rfl) i (by omega) (by omega)
 exact zc7 300 10 (by as_aux_lemma=>kernel_rfl) i (by omega) (by omega)
theorem z0n:joinedFacts Tryz.pinned.checked.prog 3 Tryz.f3 Rows.topChainSpec Rows.topChainRow=true:=by
 unfold joinedFacts;simp only[Bool.and_eq_true];repeat' apply And.intro
 all_goals (as_aux_lemma=>kernel_rfl)
theorem topChain_holds:Rows.TopChainSaid:=
 OpenClaim.holds_of_wide 3 Tryz.f3 rfl rfl rfl rfl rfl rfl rfl ⟨rfl,rfl,rfl,rfl,rfl⟩ rfl rfl rfl rfl rfl z3e Tryz.func3 z0n
  (of_decide_eq_true (by kernel_rfl)) (by unfold Func.isWrapper;first|(rw[if_pos (by decide +kernel)];kernel_rfl)|(rw[if_neg (by decide +kernel)];exact⟨rfl,rfl⟩))
  (fun os b H enc _=>topChain_lifted os b H enc)
end Go.Proofs.YtedcnffebdpmmaaGreat
