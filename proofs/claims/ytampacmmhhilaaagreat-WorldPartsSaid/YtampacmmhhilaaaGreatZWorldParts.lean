/- Whatever shape, choices and cut, the law WorldParts answers true: a schedule in two parts goes as it does in one; a choice that is refused changes nothing. -/
import Derived.Test.YtampacmmhhilaaaGreatZParW

set_option linter.all false
set_option maxHeartbeats 4000000
set_option maxRecDepth 100000
namespace Go.Proofs.YtampacmmhhilaaaGreat

open Go.RowKit Go.ChangeShapes Go.WideShapes Go.ChangeAt

theorem worldParts_lifted (os:Os) (started:os.Started) (H:Type) (enc:TypeId × Value->H):
  ReturnsInHanded {} Tryz.checked os 8 .any (Rows.worldPartsSpec.pre6 enc Tryz.prog Tryz.f8 Rows.worldPartsRow.domain false) (Rows.worldPartsSpec.post enc Tryz.prog Tryz.f8 false true false false):=by
 refine returnsInHanded_of_change_sized (C:=Tryz.checked) own started (by kernel_rfl) Tryz.func8
  (ChangeSpec.witness6 (enc:=enc) (C:=Tryz.checked) false ⟨#[], #[.agg #[.int .i64 0,.int .i64 0,.int .i64 0],.slice none 0 0,.int .u16 0], []⟩ 8 (by kernel_rfl) (by kernel_rfl) (by kernel_rfl) (by kernel_rfl)) ?_
 intro W base args ds gs before hval0 hW _ hsz0 _
 have hsz:(DataW.weightsEach Tryz.prog (Tryz.f8.params.toList ++ Rows.worldPartsSpec.plain.varTypes Tryz.prog) (ds ++ gs)).all (·<=reachBytes)=true:=hsz0
 have hval:∀ (j:Nat) t v,Tryz.f8.params[j]?=some t->args[j]?=some v->Value.okWide Tryz.prog W .any base t v:=hval0
 have hW':=hW
 obtain ⟨p,q,hA0,hV,rfl,_,_⟩:=hW
 have hA:DataW.TrodAll enc Tryz.prog W 0 (fun _=> true) true Tryz.f8.params.toList args.toList ds p:=hA0
 clear hA0 hval0 hsz0
 rw [Tryz.params8] at hA hval hsz
 obtain ⟨rfl,rfl⟩:=trodVars_none hV
 obtain ⟨v0,vs0,d0,ds0,p0,q0,hargs,rfl,rfl,h0,r0⟩:=trodAll_cons hA
 obtain ⟨v1,vs1,d1,ds1,p1,q1,rfl,rfl,rfl,h1,r1⟩:=trodAll_cons r0
 obtain ⟨v2,vs2,d2,ds2,p2,q2,rfl,rfl,rfl,h2,r2⟩:=trodAll_cons r1
 obtain ⟨rfl,rfl,rfl⟩:=trodAll_nil r2
 obtain rfl:args= #[v0,v1,v2]:=by cases args;simp_all
 have key:Calls Tryz.prog 8 #[v0,v1,v2] W fun e W'=> e= .returned (.bool true)/\Below W.heap.size W W':=by
  obtain ⟨sp,sc,sm,rfl,_,_,_⟩:=z3u Tryz.underlying23 Tryz.underlying3 Tryz.underlying3 Tryz.underlying3 (by kernel_rfl) (by kernel_rfl) (by kernel_rfl) rfl rfl rfl (by kernel_rfl) (hval 0 _ v0 rfl rfl) h0
  obtain ⟨xs,hr⟩:=z6m (hval 1 _ v1 rfl rfl) h1
  obtain ⟨wh,rfl,rfl,rfl,wwf⟩:=open_int Tryz.underlying84 (hval 2 _ v2 rfl rfl) h2
  exact parts22_any ⟨sp,sc,sm⟩ xs v1 wh ⟨(bounds_u16 wwf).1,by have:=(bounds_u16 wwf).2;omega⟩ W hr
 exact key.mono fun e W' ⟨he,hb⟩=> ⟨_,he,z6a laidOut (by kernel_rfl) Tryz.underlying4 rfl (by kernel_rfl) ⟨rfl,rfl,rfl⟩ hW' hb⟩
theorem z4t {P:Program} {name:String} {f n:Nat} (hn:P.funcs.size=n) (h:∀ i,i < n->(P.funcs[i]?).any (fun g=> g.name==name)=(i==f)) (hf:(List.range n).filter (fun i=> i==f)= [f]):P.funcNamed name=some f:=by
 have e:(List.range P.funcs.size).filter (fun i=> (P.funcs[i]?).any (fun g=> g.name==name))= [f]:=by
  rw [hn,List.filter_congr (q:=fun i=> i==f) (fun i hi=> h i (List.mem_range.1 hi))]
  exact hf
 unfold Program.funcNamed
 rw [e]
theorem zc7 {P:Program} {name:String} {f a k:Nat} (h:(List.range' a k).all (fun i=> (P.funcs[i]?).any (fun g=> g.name==name)==(i==f))=true) (i:Nat) (h1:a<=i) (h2:i < a + k):(P.funcs[i]?).any (fun g=> g.name==name)=(i==f):=by
 have h3:=List.all_eq_true.1 h i (List.mem_range'_1.2 ⟨h1,h2⟩)
 exact eq_of_beq h3
theorem ycc:(List.range' 0 38).all (fun i=> (Tryz.prog.funcs[i]?).any (fun g=> g.name== "allotment/allotmentlaw22.WorldParts")==(i==8))=true:=by kernel_rfl
theorem ycj:(List.range' 38 38).all (fun i=> (Tryz.prog.funcs[i]?).any (fun g=> g.name== "allotment/allotmentlaw22.WorldParts")==(i==8))=true:=by kernel_rfl
theorem ycm:(List.range' 76 38).all (fun i=> (Tryz.prog.funcs[i]?).any (fun g=> g.name== "allotment/allotmentlaw22.WorldParts")==(i==8))=true:=by kernel_rfl
theorem z9z:(List.range' 114 38).all (fun i=> (Tryz.prog.funcs[i]?).any (fun g=> g.name== "allotment/allotmentlaw22.WorldParts")==(i==8))=true:=by kernel_rfl
theorem yao:(List.range' 152 38).all (fun i=> (Tryz.prog.funcs[i]?).any (fun g=> g.name== "allotment/allotmentlaw22.WorldParts")==(i==8))=true:=by kernel_rfl
theorem yah:(List.range' 190 38).all (fun i=> (Tryz.prog.funcs[i]?).any (fun g=> g.name== "allotment/allotmentlaw22.WorldParts")==(i==8))=true:=by kernel_rfl
theorem ycr:(List.range' 228 38).all (fun i=> (Tryz.prog.funcs[i]?).any (fun g=> g.name== "allotment/allotmentlaw22.WorldParts")==(i==8))=true:=by kernel_rfl
theorem yaz:(List.range' 266 38).all (fun i=> (Tryz.prog.funcs[i]?).any (fun g=> g.name== "allotment/allotmentlaw22.WorldParts")==(i==8))=true:=by kernel_rfl
theorem ybr:(List.range' 304 38).all (fun i=> (Tryz.prog.funcs[i]?).any (fun g=> g.name== "allotment/allotmentlaw22.WorldParts")==(i==8))=true:=by kernel_rfl
theorem z5t:(List.range' 342 37).all (fun i=> (Tryz.prog.funcs[i]?).any (fun g=> g.name== "allotment/allotmentlaw22.WorldParts")==(i==8))=true:=by kernel_rfl
theorem z3e:Tryz.prog.funcNamed "allotment/allotmentlaw22.WorldParts"=some 8:=by
 refine z4t (n:=379) (by kernel_rfl) (fun i hi=> ?_) (by kernel_rfl)
 by_cases h1:i < 38
 ·exact zc7 ycc i (by omega) (by omega)
 by_cases h2:i < 76
 ·exact zc7 ycj i (by omega) (by omega)
 by_cases h3:i < 114
 ·exact zc7 ycm i (by omega) (by omega)
 by_cases h4:i < 152
 ·exact zc7 z9z i (by omega) (by omega)
 by_cases h5:i < 190
 ·exact zc7 yao i (by omega) (by omega)
 by_cases h6:i < 228
 ·exact zc7 yah i (by omega) (by omega)
 by_cases h7:i < 266
 ·exact zc7 ycr i (by omega) (by omega)
 by_cases h8:i < 304
 ·exact zc7 yaz i (by omega) (by omega)
 by_cases h9:i < 342
 ·exact zc7 ybr i (by omega) (by omega)
 exact zc7 z5t i (by omega) (by omega)
theorem z0n:joinedFacts Tryz.pinned.checked.prog 8 Tryz.f8 Rows.worldPartsSpec Rows.worldPartsRow=true:=by
 unfold joinedFacts
 simp only [Bool.and_eq_true]
 repeat' apply And.intro
 all_goals (as_aux_lemma=> kernel_rfl)
theorem worldParts_holds:Rows.WorldPartsSaid:=
 OpenClaim.holds_of_wide 8 Tryz.f8 rfl rfl rfl rfl rfl rfl rfl ⟨rfl,rfl,rfl,rfl,rfl⟩ rfl rfl rfl rfl rfl z3e Tryz.func8 z0n
  (of_decide_eq_true (by kernel_rfl)) (by unfold Func.isWrapper;first | (rw [if_pos (by decide +kernel)];kernel_rfl) | (rw [if_neg (by decide +kernel)];exact ⟨rfl,rfl⟩))
  (fun os started H enc _=> worldParts_lifted os started H enc)
end Go.Proofs.YtampacmmhhilaaaGreat
