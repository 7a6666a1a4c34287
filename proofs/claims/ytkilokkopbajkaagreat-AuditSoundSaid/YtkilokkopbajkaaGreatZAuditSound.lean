/- Whatever shape and choices, the law AuditSound answers true: behind each step of each schedule, whoever is killed, all words are sound; the blocks are those that the history says. -/
import Derived.Test.YtkilokkopbajkaaGreatZAusW

set_option linter.all false
set_option maxHeartbeats 4000000
set_option maxRecDepth 100000
namespace Go.Proofs.YtkilokkopbajkaaGreat

open Go.RowKit Go.ChangeShapes Go.WideShapes Go.ChangeAt

theorem yki(os:Os)(l:os.Started)(H:Type)(enc:TypeId × Value->H):
  ReturnsInHanded {} Tryz.checked os 5 .any (Rows.auditSoundSpec.pre6 enc Tryz.prog Tryz.f5 Rows.auditSoundRow.domain false) (Rows.auditSoundSpec.post enc Tryz.prog Tryz.f5 false true false false):=by
 refine returnsInHanded_of_change_sized (C:=Tryz.checked) own l (by kernel_rfl) Tryz.func5
  (ChangeSpec.witness6 (enc:=enc) (C:=Tryz.checked) false ⟨#[], #[.agg #[.int .i64 0,.int .i64 0,.int .i64 0],.slice none 0 0], []⟩ 8 (by kernel_rfl) (by kernel_rfl) (by kernel_rfl) (by kernel_rfl)) ?_
 intro W base args D J o i F _ m _;have z:(DataW.weightsEach Tryz.prog (Tryz.f5.params.toList++Rows.auditSoundSpec.plain.varTypes Tryz.prog) (D++J)).all (·<=reachBytes)=true:=m;have b:∀ (j:Nat) t v,Tryz.f5.params[j]?=some t->args[j]?=some v->Value.okWide Tryz.prog W .any base t v:=i;have s:=F;obtain⟨p,q,n,L,rfl,_,_⟩:=F;have E:DataW.TrodAll enc Tryz.prog W 0 (fun _=>true) true Tryz.f5.params.toList args.toList D p:=n;clear n i m;rw[Tryz.params5]at E b z;obtain⟨rfl,rfl⟩:=trodVars_none L;obtain⟨B,S,U,G,V,Y,y,rfl,rfl,h0,r0⟩:=trodAll_cons E;obtain⟨r,T,d1,I,X,q1,rfl,rfl,rfl,h1,r1⟩:=trodAll_cons r0;obtain⟨rfl,rfl,rfl⟩:=trodAll_nil r1;obtain rfl:args= #[B,r]:=by cases args;simp_all
 have key:jK 5 #[B,r] W fun e W'=>e= .returned (.bool true)/\Below W.heap.size W W':=by obtain⟨sp,O,R,rfl,_,_,_⟩:=kO Tryz.underlying23 Tryz.underlying3 Tryz.underlying3 Tryz.underlying3 (by kernel_rfl) (by kernel_rfl) (by kernel_rfl) rfl rfl rfl (by kernel_rfl) (b 0 _ B rfl rfl) h0;obtain⟨xs,N⟩:=zT (b 1 _ r rfl rfl) h1;exact ymx ⟨sp,O,R⟩ xs r W N
 exact key.mono fun e W' ⟨M,hb⟩=>⟨_,M,oO laidOut (by kernel_rfl) Tryz.underlying4 rfl (by kernel_rfl) ⟨rfl,rfl,rfl⟩ s hb⟩
theorem kJ{P:Program}{b:String}{f n:Nat}(l:P.funcs.size=n)(h:∀ i,i<n->(P.funcs[i]?).any (fun g=>g.name==b)=(i==f))(j:(List.range n).filter (fun i=>i==f)= [f]):P.funcNamed b=some f:=by
 unfold Program.funcNamed;rw[l,List.filter_congr (q:=fun i=>i==f) (fun i hi=>h i (List.mem_range.1 hi)),j]
theorem AD{P:Program}{b:String}{f:Nat}(a k:Nat)(h:(List.range' a k).all (fun i=>(P.funcs[i]?).any (fun g=>g.name==b)==(i==f))=true)(i:Nat)(h1:a<=i)(h2:i<a+k):(P.funcs[i]?).any (fun g=>g.name==b)=(i==f):=
 eq_of_beq (List.all_eq_true.1 h i (List.mem_range'_1.2 ⟨h1,h2⟩))
theorem fJ:Tryz.prog.funcNamed "allotment/allotmentlaw23.AuditSound"=some 5:=by
 refine kJ (n:=332) (by kernel_rfl) (fun i hi=>?_) (by kernel_rfl);by_cases h1:i<75
 ·exact AD 0 75 (by as_aux_lemma=>kernel_rfl) i (by omega) (by omega)
 by_cases h2:i<150
 ·exact AD 75 75 (by as_aux_lemma=>kernel_rfl) i (by omega) (by omega)
 by_cases h3:i<225
 ·exact AD 150 75 (by as_aux_lemma=>kernel_rfl) i (by omega) (by omega)
 by_cases h4:i<300
 ·exact AD 225 75 (by as_aux_lemma=>kernel_rfl) i (by omega) (by omega)
 exact AD 300 32 (by as_aux_lemma=>kernel_rfl) i (by omega) (by omega)
theorem ZI:joinedFacts Tryz.pinned.checked.prog 5 Tryz.f5 Rows.auditSoundSpec Rows.auditSoundRow=true:=by
 unfold joinedFacts;simp only[jC];repeat' apply And.intro
 all_goals (as_aux_lemma=>kernel_rfl)
theorem auditSound_holds:Rows.AuditSoundSaid:=
 OpenClaim.holds_of_wide 5 Tryz.f5 rfl rfl rfl rfl rfl rfl rfl ⟨rfl,rfl,rfl,rfl,rfl⟩ rfl rfl rfl rfl rfl fJ Tryz.func5 ZI
  (of_decide_eq_true (by kernel_rfl)) (by unfold Func.isWrapper;first|(rw[jP (by decide +kernel)];kernel_rfl)|(rw[jN (by decide +kernel)];exact⟨rfl,rfl⟩))
  (fun os b H enc _=>yki os b H enc)
end Go.Proofs.YtkilokkopbajkaaGreat
