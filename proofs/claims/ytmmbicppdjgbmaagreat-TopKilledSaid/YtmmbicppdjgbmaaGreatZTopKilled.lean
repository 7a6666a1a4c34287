/- The law TopKilled answers true, whatever its arguments. -/
import Derived.Test.YtmmbicppdjgbmaaGreatZKldW

set_option linter.all false
set_option maxHeartbeats 4000000
set_option maxRecDepth 100000
namespace Go.Proofs.YtmmbicppdjgbmaaGreat

open Go.RowKit Go.ChangeShapes Go.WideShapes Go.ChangeAt

theorem ykz(os:Os)(l:os.Started)(H:Type)(enc:TypeId × Value->H):
  ReturnsInHanded {} Tryz.checked os 4 .any (Rows.topKilledSpec.pre6 enc Tryz.prog Tryz.f4 Rows.topKilledRow.domain false) (Rows.topKilledSpec.post enc Tryz.prog Tryz.f4 false true false false):=by
 refine returnsInHanded_of_change_sized (C:=Tryz.checked) own l (by kernel_rfl) Tryz.func4
  (ChangeSpec.witness6 (enc:=enc) (C:=Tryz.checked) false ⟨#[], #[.agg #[.int .i64 0,.int .i64 0,.int .i64 0],.slice none 0 0,.int .u16 0], []⟩ 8 (by kernel_rfl) (by kernel_rfl) (by kernel_rfl) (by kernel_rfl)) ?_
 intro W base args F N o i I _ m _;have B:(DataW.weightsEach Tryz.prog (Tryz.f4.params.toList++Rows.topKilledSpec.plain.varTypes Tryz.prog) (F++N)).all (·<=reachBytes)=true:=m;have b:∀ (j:Nat) t v,Tryz.f4.params[j]?=some t->args[j]?=some v->Value.okWide Tryz.prog W .any base t v:=i;have s:=I;obtain⟨p,q,n,O,rfl,_,_⟩:=I;have G:DataW.TrodAll enc Tryz.prog W 0 (fun _=>true) true Tryz.f4.params.toList args.toList F p:=n;clear n i m;rw[Tryz.params4]at G b B;obtain⟨rfl,rfl⟩:=trodVars_none O;obtain⟨D,Y,d0,J,p0,q0,y,rfl,rfl,h0,r0⟩:=trodAll_cons G;obtain⟨r,Z,d1,L,p1,q1,rfl,rfl,rfl,h1,r1⟩:=trodAll_cons r0;obtain⟨E,b0,d2,M,p2,q2,rfl,rfl,rfl,h2,U⟩:=trodAll_cons r1;obtain⟨rfl,rfl,rfl⟩:=trodAll_nil U;obtain rfl:args= #[D,r,E]:=by cases args;simp_all
 have key:jK 4 #[D,r,E] W fun e W'=>e= .returned (.bool true)/\Below W.heap.size W W':=by obtain⟨sp,V,X,rfl,_,_,_⟩:=qO Tryz.underlying23 Tryz.underlying3 Tryz.underlying3 Tryz.underlying3 (by kernel_rfl) (by kernel_rfl) (by kernel_rfl) rfl rfl rfl (by kernel_rfl) (b 0 _ D rfl rfl) h0;obtain⟨xs,S⟩:=ypu (b 1 _ r rfl rfl) h1;obtain⟨z,rfl,rfl,rfl,T⟩:=open_int Tryz.underlying50 (b 2 _ E rfl rfl) h2;exact ymd ⟨sp,V,X⟩ xs r z (yrt T) W S
 exact key.mono fun e W' ⟨R,hb⟩=>⟨_,R,wO laidOut (by kernel_rfl) Tryz.underlying4 rfl (by kernel_rfl) ⟨rfl,rfl,rfl⟩ s hb⟩
theorem gJ{P:Program}{b:String}{f n:Nat}(l:P.funcs.size=n)(h:∀ i,i<n->(P.funcs[i]?).any (fun g=>g.name==b)=(i==f))(j:(List.range n).filter (fun i=>i==f)= [f]):P.funcNamed b=some f:=by
 unfold Program.funcNamed;rw[l,List.filter_congr (q:=fun i=>i==f) (fun i hi=>h i (List.mem_range.1 hi)),j]
theorem xD{P:Program}{b:String}{f:Nat}(a k:Nat)(h:(List.range' a k).all (fun i=>(P.funcs[i]?).any (fun g=>g.name==b)==(i==f))=true)(i:Nat)(h1:a<=i)(h2:i<a+k):(P.funcs[i]?).any (fun g=>g.name==b)=(i==f):=
 eq_of_beq (List.all_eq_true.1 h i (List.mem_range'_1.2 ⟨h1,h2⟩))
theorem cJ:Tryz.prog.funcNamed "allotment/allotmenttop.TopKilled"=some 4:=by
 refine gJ (n:=351) (by kernel_rfl) (fun i hi=>?_) (by kernel_rfl);by_cases h1:i<117
 ·exact xD 0 117 (by as_aux_lemma=>kernel_rfl) i (by omega) (by omega)
 by_cases h2:i<234
 ·exact xD 117 117 (by as_aux_lemma=>kernel_rfl) i (by omega) (by omega)
 exact xD 234 117 (by as_aux_lemma=>kernel_rfl) i (by omega) (by omega)
theorem VI:joinedFacts Tryz.pinned.checked.prog 4 Tryz.f4 Rows.topKilledSpec Rows.topKilledRow=true:=by
 unfold joinedFacts;simp only[jC];repeat' apply And.intro
 all_goals (as_aux_lemma=>kernel_rfl)
theorem topKilled_holds:Rows.TopKilledSaid:=
 OpenClaim.holds_of_wide 4 Tryz.f4 rfl rfl rfl rfl rfl rfl rfl ⟨rfl,rfl,rfl,rfl,rfl⟩ rfl rfl rfl rfl rfl cJ Tryz.func4 VI
  (of_decide_eq_true (by kernel_rfl)) (by unfold Func.isWrapper;first|(rw[jP (by decide +kernel)];kernel_rfl)|(rw[jN (by decide +kernel)];exact⟨rfl,rfl⟩))
  (fun os b H enc _=>ykz os b H enc)
end Go.Proofs.YtmmbicppdjgbmaaGreat
