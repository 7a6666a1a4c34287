/- Whatever shape, choices and turns, the law TopBusy answers true: an adoption that goes on while all others go on, too, is well, or told why not, within its bound; the history is in order all the while. -/
import Derived.Test.YtmmbicppdjgbmaaGreatZBzyW

set_option linter.all false
set_option maxHeartbeats 4000000
set_option maxRecDepth 100000
namespace Go.Proofs.YtmmbicppdjgbmaaGreat

open Go.RowKit Go.ChangeShapes Go.WideShapes Go.ChangeAt

theorem yli(os:Os)(l:os.Started)(H:Type)(enc:TypeId × Value->H):
  ReturnsInHanded {} Tryz.checked os 5 .any (Rows.topBusySpec.pre6 enc Tryz.prog Tryz.f5 Rows.topBusyRow.domain false) (Rows.topBusySpec.post enc Tryz.prog Tryz.f5 false true false false):=by
 refine returnsInHanded_of_change_sized (C:=Tryz.checked) own l (by kernel_rfl) Tryz.func5
  (ChangeSpec.witness6 (enc:=enc) (C:=Tryz.checked) false ⟨#[], #[.agg #[.int .i64 0,.int .i64 0,.int .i64 0],.slice none 0 0,.slice none 0 0], []⟩ 8 (by kernel_rfl) (by kernel_rfl) (by kernel_rfl) (by kernel_rfl)) ?_
 intro W base args F N o i I _ m _;have B:(DataW.weightsEach Tryz.prog (Tryz.f5.params.toList++Rows.topBusySpec.plain.varTypes Tryz.prog) (F++N)).all (·<=reachBytes)=true:=m;have b:∀ (j:Nat) t v,Tryz.f5.params[j]?=some t->args[j]?=some v->Value.okWide Tryz.prog W .any base t v:=i;have y:=I;obtain⟨p,q,n,O,rfl,_,_⟩:=I;have G:DataW.TrodAll enc Tryz.prog W 0 (fun _=>true) true Tryz.f5.params.toList args.toList F p:=n;clear n i m;rw[Tryz.params5]at G b B;obtain⟨rfl,rfl⟩:=trodVars_none O;obtain⟨E,Z,d0,J,p0,q0,z,rfl,rfl,h0,r0⟩:=trodAll_cons G;obtain⟨r,b0,d1,L,p1,q1,rfl,rfl,rfl,h1,r1⟩:=trodAll_cons r0;obtain⟨s,b1,d2,M,p2,q2,rfl,rfl,rfl,h2,U⟩:=trodAll_cons r1;obtain⟨rfl,rfl,rfl⟩:=trodAll_nil U;obtain rfl:args= #[E,r,s]:=by cases args;simp_all
 have key:jK 5 #[E,r,s] W fun e W'=>e= .returned (.bool true)/\Below W.heap.size W W':=by obtain⟨sp,V,X,rfl,_,_,_⟩:=qO Tryz.underlying23 Tryz.underlying3 Tryz.underlying3 Tryz.underlying3 (by kernel_rfl) (by kernel_rfl) (by kernel_rfl) rfl rfl rfl (by kernel_rfl) (b 0 _ E rfl rfl) h0;obtain⟨xs,T⟩:=xT (b 1 _ r rfl rfl) h1;obtain⟨Y,hu,D⟩:=yf7 Tryz.underlying53 Tryz.underlying5 (by kernel_rfl) (b 2 _ s rfl rfl) h2;exact ynf ⟨sp,V,X⟩ xs Y r s W T hu (fun a R=>yru (D a R))
 exact key.mono fun e W' ⟨S,hb⟩=>⟨_,S,wO laidOut (by kernel_rfl) Tryz.underlying4 rfl (by kernel_rfl) ⟨rfl,rfl,rfl⟩ y hb⟩
theorem gJ{P:Program}{b:String}{f n:Nat}(l:P.funcs.size=n)(h:∀ i,i<n->(P.funcs[i]?).any (fun g=>g.name==b)=(i==f))(j:(List.range n).filter (fun i=>i==f)= [f]):P.funcNamed b=some f:=by
 unfold Program.funcNamed;rw[l,List.filter_congr (q:=fun i=>i==f) (fun i hi=>h i (List.mem_range.1 hi)),j]
theorem xD{P:Program}{b:String}{f:Nat}(a k:Nat)(h:(List.range' a k).all (fun i=>(P.funcs[i]?).any (fun g=>g.name==b)==(i==f))=true)(i:Nat)(h1:a<=i)(h2:i<a+k):(P.funcs[i]?).any (fun g=>g.name==b)=(i==f):=
 eq_of_beq (List.all_eq_true.1 h i (List.mem_range'_1.2 ⟨h1,h2⟩))
theorem cJ:Tryz.prog.funcNamed "allotment/allotmenttop.TopBusy"=some 5:=by
 refine gJ (n:=351) (by kernel_rfl) (fun i hi=>?_) (by kernel_rfl);by_cases h1:i<75
 ·exact xD 0 75 (by as_aux_lemma=>kernel_rfl) i (by omega) (by omega)
 by_cases h2:i<150
 ·exact xD 75 75 (by as_aux_lemma=>kernel_rfl) i (by omega) (by omega)
 by_cases h3:i<225
 ·exact xD 150 75 (by as_aux_lemma=>kernel_rfl) i (by omega) (by omega)
 by_cases h4:i<300
 ·exact xD 225 75 (by as_aux_lemma=>kernel_rfl) i (by omega) (by omega)
 exact xD 300 51 (by as_aux_lemma=>kernel_rfl) i (by omega) (by omega)
theorem VI:joinedFacts Tryz.pinned.checked.prog 5 Tryz.f5 Rows.topBusySpec Rows.topBusyRow=true:=by
 unfold joinedFacts;simp only[jC];repeat' apply And.intro
 all_goals (as_aux_lemma=>kernel_rfl)
theorem topBusy_holds:Rows.TopBusySaid:=
 OpenClaim.holds_of_wide 5 Tryz.f5 rfl rfl rfl rfl rfl rfl rfl ⟨rfl,rfl,rfl,rfl,rfl⟩ rfl rfl rfl rfl rfl cJ Tryz.func5 VI
  (of_decide_eq_true (by kernel_rfl)) (by unfold Func.isWrapper;first|(rw[jP (by decide +kernel)];kernel_rfl)|(rw[jN (by decide +kernel)];exact⟨rfl,rfl⟩))
  (fun os b H enc _=>yli os b H enc)
end Go.Proofs.YtmmbicppdjgbmaaGreat
