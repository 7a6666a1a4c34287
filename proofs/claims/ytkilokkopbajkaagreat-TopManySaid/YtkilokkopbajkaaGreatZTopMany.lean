/- Whatever shape, sizes and turns, the law TopMany answers true: of many that ask for one block each at the same time as many get one as answers say, no two have a word in common, and all are answered. -/
import Derived.Test.YtkilokkopbajkaaGreatZManW

set_option linter.all false
set_option maxHeartbeats 4000000
set_option maxRecDepth 100000
namespace Go.Proofs.YtkilokkopbajkaaGreat

open Go.RowKit Go.ChangeShapes Go.WideShapes Go.ChangeAt

theorem yk6(os:Os)(l:os.Started)(H:Type)(enc:TypeId × Value->H):
  ReturnsInHanded {} Tryz.checked os 7 .any (Rows.topManySpec.pre6 enc Tryz.prog Tryz.f7 Rows.topManyRow.domain false) (Rows.topManySpec.post enc Tryz.prog Tryz.f7 false true false false):=by
 refine returnsInHanded_of_change_sized (C:=Tryz.checked) own l (by kernel_rfl) Tryz.func7
  (ChangeSpec.witness6 (enc:=enc) (C:=Tryz.checked) false ⟨#[], #[.agg #[.int .i64 0,.int .i64 0,.int .i64 0],.slice none 0 0,.slice none 0 0], []⟩ 8 (by kernel_rfl) (by kernel_rfl) (by kernel_rfl) (by kernel_rfl)) ?_
 intro W base args I R o i L _ m _;have D:(DataW.weightsEach Tryz.prog (Tryz.f7.params.toList++Rows.topManySpec.plain.varTypes Tryz.prog) (I++R)).all (·<=reachBytes)=true:=m;have b:∀ (j:Nat) t v,Tryz.f7.params[j]?=some t->args[j]?=some v->Value.okWide Tryz.prog W .any base t v:=i;have y:=L;obtain⟨p,q,n,S,rfl,_,_⟩:=L;have J:DataW.TrodAll enc Tryz.prog W 0 (fun _=>true) true Tryz.f7.params.toList args.toList I p:=n;clear n i m;rw[Tryz.params7]at J b D;obtain⟨rfl,rfl⟩:=trodVars_none S;obtain⟨G,b0,d0,M,p0,q0,B,rfl,rfl,h0,r0⟩:=trodAll_cons J;obtain⟨r,b1,d1,N,p1,q1,rfl,rfl,rfl,h1,r1⟩:=trodAll_cons r0;obtain⟨s,b2,d2,O,p2,q2,rfl,rfl,rfl,h2,V⟩:=trodAll_cons r1;obtain⟨rfl,rfl,rfl⟩:=trodAll_nil V;obtain rfl:args= #[G,r,s]:=by cases args;simp_all
 have key:jK 7 #[G,r,s] W fun e W'=>e= .returned (.bool true)/\Below W.heap.size W W':=by obtain⟨sp,X,Y,rfl,_,_,_⟩:=kO Tryz.underlying23 Tryz.underlying3 Tryz.underlying3 Tryz.underlying3 (by kernel_rfl) (by kernel_rfl) (by kernel_rfl) rfl rfl rfl (by kernel_rfl) (b 0 _ G rfl rfl) h0;obtain⟨zs,U,F⟩:=HQ Tryz.underlying90 Tryz.underlying92 (by kernel_rfl) (b 1 _ r rfl rfl) h1;obtain⟨Z,hu,E⟩:=HQ Tryz.underlying91 Tryz.underlying5 (by kernel_rfl) (b 2 _ s rfl rfl) h2;exact yom ⟨sp,X,Y⟩ zs Z r s W U hu (fun a z=>yrj (F a z)) (fun a z=>yrs (E a z))
 exact key.mono fun e W' ⟨T,hb⟩=>⟨_,T,oO laidOut (by kernel_rfl) Tryz.underlying4 rfl (by kernel_rfl) ⟨rfl,rfl,rfl⟩ y hb⟩
theorem kJ{P:Program}{b:String}{f n:Nat}(l:P.funcs.size=n)(h:∀ i,i<n->(P.funcs[i]?).any (fun g=>g.name==b)=(i==f))(j:(List.range n).filter (fun i=>i==f)= [f]):P.funcNamed b=some f:=by
 unfold Program.funcNamed;rw[l,List.filter_congr (q:=fun i=>i==f) (fun i hi=>h i (List.mem_range.1 hi)),j]
theorem AD{P:Program}{b:String}{f:Nat}(a k:Nat)(h:(List.range' a k).all (fun i=>(P.funcs[i]?).any (fun g=>g.name==b)==(i==f))=true)(i:Nat)(h1:a<=i)(h2:i<a+k):(P.funcs[i]?).any (fun g=>g.name==b)=(i==f):=
 eq_of_beq (List.all_eq_true.1 h i (List.mem_range'_1.2 ⟨h1,h2⟩))
theorem fJ:Tryz.prog.funcNamed "allotment/allotmenttop.TopMany"=some 7:=by
 refine kJ (n:=332) (by kernel_rfl) (fun i hi=>?_) (by kernel_rfl);by_cases h1:i<75
 ·exact AD 0 75 (by as_aux_lemma=>kernel_rfl) i (by omega) (by omega)
 by_cases h2:i<150
 ·exact AD 75 75 (by as_aux_lemma=>kernel_rfl) i (by omega) (by omega)
 by_cases h3:i<225
 ·exact AD 150 75 (by as_aux_lemma=>kernel_rfl) i (by omega) (by omega)
 by_cases h4:i<300
 ·exact AD 225 75 (by as_aux_lemma=>kernel_rfl) i (by omega) (by omega)
 exact AD 300 32 (by as_aux_lemma=>kernel_rfl) i (by omega) (by omega)
theorem ZI:joinedFacts Tryz.pinned.checked.prog 7 Tryz.f7 Rows.topManySpec Rows.topManyRow=true:=by
 unfold joinedFacts;simp only[jC];repeat' apply And.intro
 all_goals (as_aux_lemma=>kernel_rfl)
theorem topMany_holds:Rows.TopManySaid:=
 OpenClaim.holds_of_wide 7 Tryz.f7 rfl rfl rfl rfl rfl rfl rfl ⟨rfl,rfl,rfl,rfl,rfl⟩ rfl rfl rfl rfl rfl fJ Tryz.func7 ZI
  (of_decide_eq_true (by kernel_rfl)) (by unfold Func.isWrapper;first|(rw[jP (by decide +kernel)];kernel_rfl)|(rw[jN (by decide +kernel)];exact⟨rfl,rfl⟩))
  (fun os b H enc _=>yk6 os b H enc)
end Go.Proofs.YtkilokkopbajkaaGreat
