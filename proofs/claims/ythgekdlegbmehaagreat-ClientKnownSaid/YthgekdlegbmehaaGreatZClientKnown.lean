/- The law ClientKnown answers true: chapter 20's example, what is answered at once, and a memory with too few words. -/
import Derived.Test.YthgekdlegbmehaaGreatZKlW

set_option linter.all false
set_option maxHeartbeats 4000000
set_option maxRecDepth 100000
namespace Go.Proofs.YthgekdlegbmehaaGreat

open Go.RowKit Go.ChangeShapes Go.WideShapes Go.ChangeAt

theorem clientKnown_lifted (os:Os) (started:os.Started) (H:Type) (enc:TypeId × Value->H):
  ReturnsInHanded {} Tryz.checked os 3 .any (Rows.clientKnownSpec.pre6 enc Tryz.prog Tryz.f3 Rows.clientKnownRow.domain false) (Rows.clientKnownSpec.post enc Tryz.prog Tryz.f3 false true false false):=by
 refine returnsInHanded_of_change_sized (C:=Tryz.checked) own started (by kernel_rfl) Tryz.func3
  (ChangeSpec.witness6 (enc:=enc) (C:=Tryz.checked) false ⟨#[], #[], []⟩ 8 (by kernel_rfl) (by kernel_rfl) (by kernel_rfl) (by kernel_rfl)) ?_
 intro W base args ds gs before hval0 hW _ hsz0 _
 have hsz:(DataW.weightsEach Tryz.prog (Tryz.f3.params.toList ++ Rows.clientKnownSpec.plain.varTypes Tryz.prog) (ds ++ gs)).all (·<=reachBytes)=true:=hsz0
 have hval:∀ (j:Nat) t v,Tryz.f3.params[j]?=some t->args[j]?=some v->Value.okWide Tryz.prog W .any base t v:=hval0
 have hW':=hW
 obtain ⟨p,q,hA0,hV,rfl,_,_⟩:=hW
 have hA:DataW.TrodAll enc Tryz.prog W 0 (fun _=> true) true Tryz.f3.params.toList args.toList ds p:=hA0
 clear hA0 hval0 hsz0
 rw [Tryz.params3] at hA hval hsz
 obtain ⟨rfl,rfl⟩:=trodVars_none hV
 obtain ⟨hargs,rfl,rfl⟩:=trodAll_nil hA
 obtain rfl:args= #[]:=by cases args;simp_all
 have key:Calls Tryz.prog 3 #[] W fun e W'=> e= .returned (.bool true)/\Below W.heap.size W W':=by
  exact clientKnown_any W
 exact key.mono fun e W' ⟨he,hb⟩=> ⟨_,he,z6a laidOut (by kernel_rfl) Tryz.underlying4 rfl (by kernel_rfl) ⟨rfl,rfl,rfl⟩ hW' hb⟩
theorem z4t {P:Program} {name:String} {f n:Nat} (hn:P.funcs.size=n) (h:∀ i,i < n->(P.funcs[i]?).any (fun g=> g.name==name)=(i==f)) (hf:(List.range n).filter (fun i=> i==f)= [f]):P.funcNamed name=some f:=by
 have e:(List.range P.funcs.size).filter (fun i=> (P.funcs[i]?).any (fun g=> g.name==name))= [f]:=by
  rw [hn,List.filter_congr (q:=fun i=> i==f) (fun i hi=> h i (List.mem_range.1 hi))]
  exact hf
 unfold Program.funcNamed
 rw [e]
theorem zc7 {P:Program} {name:String} {f a k:Nat} (h:(List.range' a k).all (fun i=> (P.funcs[i]?).any (fun g=> g.name==name)==(i==f))=true) (i:Nat) (h1:a<=i) (h2:i < a + k):(P.funcs[i]?).any (fun g=> g.name==name)=(i==f):=by
 have h3:=List.all_eq_true.1 h i (List.mem_range'_1.2 ⟨h1,h2⟩)
 exact eq_of_beq h3
theorem ycc:(List.range' 0 38).all (fun i=> (Tryz.prog.funcs[i]?).any (fun g=> g.name== "allotment/allotmentlaw20.ClientKnown")==(i==3))=true:=by kernel_rfl
theorem ycj:(List.range' 38 38).all (fun i=> (Tryz.prog.funcs[i]?).any (fun g=> g.name== "allotment/allotmentlaw20.ClientKnown")==(i==3))=true:=by kernel_rfl
theorem ycm:(List.range' 76 38).all (fun i=> (Tryz.prog.funcs[i]?).any (fun g=> g.name== "allotment/allotmentlaw20.ClientKnown")==(i==3))=true:=by kernel_rfl
theorem z9z:(List.range' 114 38).all (fun i=> (Tryz.prog.funcs[i]?).any (fun g=> g.name== "allotment/allotmentlaw20.ClientKnown")==(i==3))=true:=by kernel_rfl
theorem yao:(List.range' 152 38).all (fun i=> (Tryz.prog.funcs[i]?).any (fun g=> g.name== "allotment/allotmentlaw20.ClientKnown")==(i==3))=true:=by kernel_rfl
theorem yah:(List.range' 190 1).all (fun i=> (Tryz.prog.funcs[i]?).any (fun g=> g.name== "allotment/allotmentlaw20.ClientKnown")==(i==3))=true:=by kernel_rfl
theorem z3e:Tryz.prog.funcNamed "allotment/allotmentlaw20.ClientKnown"=some 3:=by
 refine z4t (n:=191) (by kernel_rfl) (fun i hi=> ?_) (by kernel_rfl)
 by_cases h1:i < 38
 ·exact zc7 ycc i (by omega) (by omega)
 by_cases h2:i < 76
 ·exact zc7 ycj i (by omega) (by omega)
 by_cases h3:i < 114
 ·exact zc7 ycm i (by omega) (by omega)
 by_cases h4:i < 152
 ·exact zc7 z9z i (by omega) (by omega)
 by_cases h5:i < 190
 ·exact zc7 yao i (by omega) (by omega)
 exact zc7 yah i (by omega) (by omega)
theorem z0n:joinedFacts Tryz.pinned.checked.prog 3 Tryz.f3 Rows.clientKnownSpec Rows.clientKnownRow=true:=by
 unfold joinedFacts
 simp only [Bool.and_eq_true]
 repeat' apply And.intro
 all_goals (as_aux_lemma=> kernel_rfl)
theorem clientKnown_holds:Rows.ClientKnownSaid:=
 OpenClaim.holds_of_wide 3 Tryz.f3 rfl rfl rfl rfl rfl rfl rfl ⟨rfl,rfl,rfl,rfl,rfl⟩ rfl rfl rfl rfl rfl z3e Tryz.func3 z0n
  (of_decide_eq_true (by kernel_rfl)) (by unfold Func.isWrapper;first | (rw [if_pos (by decide +kernel)];kernel_rfl) | (rw [if_neg (by decide +kernel)];exact ⟨rfl,rfl⟩))
  (fun os started H enc _=> clientKnown_lifted os started H enc)
end Go.Proofs.YthgekdlegbmehaaGreat
