/- Whatever shape and choices, the law WorldOrder answers true: the history is in order, as the program's judge and the document's judge say. -/
import Derived.Test.YtmmbicppdjgbmaaGreatZOrdW

set_option linter.all false
set_option maxHeartbeats 4000000
set_option maxRecDepth 100000
namespace Go.Proofs.YtmmbicppdjgbmaaGreat

open Go.RowKit Go.ChangeShapes Go.WideShapes Go.ChangeAt

theorem yks(os:Os)(l:os.Started)(H:Type)(enc:TypeId × Value->H):
  ReturnsInHanded {} Tryz.checked os 3 .any (Rows.worldOrderSpec.pre6 enc Tryz.prog Tryz.f3 Rows.worldOrderRow.domain false) (Rows.worldOrderSpec.post enc Tryz.prog Tryz.f3 false true false false):=by
 refine returnsInHanded_of_change_sized (C:=Tryz.checked) own l (by kernel_rfl) Tryz.func3
  (ChangeSpec.witness6 (enc:=enc) (C:=Tryz.checked) false ⟨#[], #[.agg #[.int .i64 0,.int .i64 0,.int .i64 0],.slice none 0 0], []⟩ 8 (by kernel_rfl) (by kernel_rfl) (by kernel_rfl) (by kernel_rfl)) ?_
 intro W base args D J o i F _ m _;have z:(DataW.weightsEach Tryz.prog (Tryz.f3.params.toList++Rows.worldOrderSpec.plain.varTypes Tryz.prog) (D++J)).all (·<=reachBytes)=true:=m;have b:∀ (j:Nat) t v,Tryz.f3.params[j]?=some t->args[j]?=some v->Value.okWide Tryz.prog W .any base t v:=i;have s:=F;obtain⟨p,q,n,L,rfl,_,_⟩:=F;have E:DataW.TrodAll enc Tryz.prog W 0 (fun _=>true) true Tryz.f3.params.toList args.toList D p:=n;clear n i m;rw[Tryz.params3]at E b z;obtain⟨rfl,rfl⟩:=trodVars_none L;obtain⟨B,S,U,G,V,Y,y,rfl,rfl,h0,r0⟩:=trodAll_cons E;obtain⟨r,T,d1,I,X,q1,rfl,rfl,rfl,h1,r1⟩:=trodAll_cons r0;obtain⟨rfl,rfl,rfl⟩:=trodAll_nil r1;obtain rfl:args= #[B,r]:=by cases args;simp_all
 have key:jK 3 #[B,r] W fun e W'=>e= .returned (.bool true)/\Below W.heap.size W W':=by obtain⟨sp,O,R,rfl,_,_,_⟩:=qO Tryz.underlying23 Tryz.underlying3 Tryz.underlying3 Tryz.underlying3 (by kernel_rfl) (by kernel_rfl) (by kernel_rfl) rfl rfl rfl (by kernel_rfl) (b 0 _ B rfl rfl) h0;obtain⟨xs,N⟩:=xT (b 1 _ r rfl rfl) h1;exact yoi ⟨sp,O,R⟩ xs r W N
 exact key.mono fun e W' ⟨M,hb⟩=>⟨_,M,wO laidOut (by kernel_rfl) Tryz.underlying4 rfl (by kernel_rfl) ⟨rfl,rfl,rfl⟩ s hb⟩
theorem gJ{P:Program}{b:String}{f n:Nat}(l:P.funcs.size=n)(h:∀ i,i<n->(P.funcs[i]?).any (fun g=>g.name==b)=(i==f))(j:(List.range n).filter (fun i=>i==f)= [f]):P.funcNamed b=some f:=by
 unfold Program.funcNamed;rw[l,List.filter_congr (q:=fun i=>i==f) (fun i hi=>h i (List.mem_range.1 hi)),j]
theorem xD{P:Program}{b:String}{f:Nat}(a k:Nat)(h:(List.range' a k).all (fun i=>(P.funcs[i]?).any (fun g=>g.name==b)==(i==f))=true)(i:Nat)(h1:a<=i)(h2:i<a+k):(P.funcs[i]?).any (fun g=>g.name==b)=(i==f):=
 eq_of_beq (List.all_eq_true.1 h i (List.mem_range'_1.2 ⟨h1,h2⟩))
theorem cJ:Tryz.prog.funcNamed "allotment/allotmentlaw22.WorldOrder"=some 3:=by
 refine gJ (n:=351) (by kernel_rfl) (fun i hi=>?_) (by kernel_rfl);by_cases h1:i<75
 ·exact xD 0 75 (by as_aux_lemma=>kernel_rfl) i (by omega) (by omega)
 by_cases h2:i<150
 ·exact xD 75 75 (by as_aux_lemma=>kernel_rfl) i (by omega) (by omega)
 by_cases h3:i<225
 ·exact xD 150 75 (by as_aux_lemma=>kernel_rfl) i (by omega) (by omega)
 by_cases h4:i<300
 ·exact xD 225 75 (by as_aux_lemma=>kernel_rfl) i (by omega) (by omega)
 exact xD 300 51 (by as_aux_lemma=>kernel_rfl) i (by omega) (by omega)
theorem VI:joinedFacts Tryz.pinned.checked.prog 3 Tryz.f3 Rows.worldOrderSpec Rows.worldOrderRow=true:=by
 unfold joinedFacts;simp only[jC];repeat' apply And.intro
 all_goals (as_aux_lemma=>kernel_rfl)
theorem worldOrder_holds:Rows.WorldOrderSaid:=
 OpenClaim.holds_of_wide 3 Tryz.f3 rfl rfl rfl rfl rfl rfl rfl ⟨rfl,rfl,rfl,rfl,rfl⟩ rfl rfl rfl rfl rfl cJ Tryz.func3 VI
  (of_decide_eq_true (by kernel_rfl)) (by unfold Func.isWrapper;first|(rw[jP (by decide +kernel)];kernel_rfl)|(rw[jN (by decide +kernel)];exact⟨rfl,rfl⟩))
  (fun os b H enc _=>yks os b H enc)
end Go.Proofs.YtmmbicppdjgbmaaGreat
