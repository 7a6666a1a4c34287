/- Whatever shape and choices, the law TopGiven answers true: when all is quiet each address of the heap is given just if a block begins there, whoever asks. -/
import Derived.Test.YtkbddndcegpllaaGreatBg47

set_option linter.all false
set_option maxHeartbeats 4000000
set_option maxRecDepth 100000
namespace Go.Proofs.YtkbddndcegpllaaGreat

open Go.RowKit Go.ChangeShapes Go.WideShapes Go.ChangeAt

theorem topGiven_lifted(os:Os)(l:os.Started)(H:Type)(enc:TypeId × Value->H):
  ReturnsInHanded {} Tryz.checked os 3 .any (Rows.topGivenSpec.pre6 enc Tryz.prog Tryz.f3 Rows.topGivenRow.domain false) (Rows.topGivenSpec.post enc Tryz.prog Tryz.f3 false true false false):=by
 refine returnsInHanded_of_change_sized (C:=Tryz.checked) own l (by kernel_rfl) Tryz.func3
  (ChangeSpec.witness6 (enc:=enc) (C:=Tryz.checked) false ⟨#[], #[.agg #[.int .i64 0,.int .i64 0,.int .i64 0],.slice none 0 0], []⟩ 8 (by kernel_rfl) (by kernel_rfl) (by kernel_rfl) (by kernel_rfl)) ?_
 intro W n args E L r i G _ m _;have B:(DataW.weightsEach Tryz.prog (Tryz.f3.params.toList++Rows.topGivenSpec.plain.varTypes Tryz.prog) (E++L)).all (·<=reachBytes)=true:=m;have b:∀ (j:Nat) t v,Tryz.f3.params[j]?=some t->args[j]?=some v->Value.okWide Tryz.prog W .any n t v:=i;have y:=G;obtain⟨p,q,o,O,rfl,_,_⟩:=G;have F:DataW.TrodAll enc Tryz.prog W 0 (fun _=>true) true Tryz.f3.params.toList args.toList E p:=o;clear o i m;rw[Tryz.params3]at F b B;obtain⟨rfl,rfl⟩:=trodVars_none O;obtain⟨D,V,Y,I,Z,q0,z,rfl,rfl,M,r0⟩:=trodAll_cons F;obtain⟨s,X,d1,J,p1,q1,rfl,rfl,rfl,N,r1⟩:=trodAll_cons r0;obtain⟨rfl,rfl,rfl⟩:=trodAll_nil r1;obtain rfl:args= #[D,s]:=by cases args;simp_all
 have key:Calls Tryz.prog 3 #[D,s] W fun e W'=>e= .returned (.bool true)/\Below W.heap.size W W':=by obtain⟨sp,T,U,rfl,_,_,_⟩:=z3u Tryz.underlying23 Tryz.underlying3 Tryz.underlying3 Tryz.underlying3 (by kernel_rfl) (by kernel_rfl) (by kernel_rfl) rfl rfl rfl (by kernel_rfl) (b 0 _ D rfl rfl) M;obtain⟨xs,S⟩:=z6m (b 1 _ s rfl rfl) N;exact given_any ⟨sp,T,U⟩ xs s W S
 exact key.mono fun e W' ⟨R,hb⟩=>⟨_,R,z6a laidOut (by kernel_rfl) Tryz.underlying4 rfl (by kernel_rfl) ⟨rfl,rfl,rfl⟩ y hb⟩
theorem z4t{P:Program}{b:String}{f n:Nat}(l:P.funcs.size=n)(h:∀ i,i<n->(P.funcs[i]?).any (fun g=>g.name==b)=(i==f))(j:(List.range n).filter (fun i=>i==f)= [f]):P.funcNamed b=some f:=by
 have e:(List.range P.funcs.size).filter (fun i=>(P.funcs[i]?).any (fun g=>g.name==b))= [f]:=by rw[l,List.filter_congr (q:=fun i=>i==f) (fun i hi=>h i (List.mem_range.1 hi))];exact j
 unfold Program.funcNamed;rw[e]
theorem zc7{P:Program}{b:String}{f a k:Nat}(h:(List.range' a k).all (fun i=>(P.funcs[i]?).any (fun g=>g.name==b)==(i==f))=true)(i:Nat)(j:a<=i)(l:i<a+k):(P.funcs[i]?).any (fun g=>g.name==b)=(i==f):=by
 have m:=List.all_eq_true.1 h i (List.mem_range'_1.2 ⟨j,l⟩);exact eq_of_beq m
theorem ycc:(List.range' 0 38).all (fun i=>(Tryz.prog.funcs[i]?).any (fun g=>g.name== "allotment/allotmenttop.TopGiven")==(i==3))=true:=by kernel_rfl
theorem ycj:(List.range' 38 38).all (fun i=>(Tryz.prog.funcs[i]?).any (fun g=>g.name== "allotment/allotmenttop.TopGiven")==(i==3))=true:=by kernel_rfl
theorem ycm:(List.range' 76 38).all (fun i=>(Tryz.prog.funcs[i]?).any (fun g=>g.name== "allotment/allotmenttop.TopGiven")==(i==3))=true:=by kernel_rfl
theorem z9z:(List.range' 114 38).all (fun i=>(Tryz.prog.funcs[i]?).any (fun g=>g.name== "allotment/allotmenttop.TopGiven")==(i==3))=true:=by kernel_rfl
theorem yao:(List.range' 152 38).all (fun i=>(Tryz.prog.funcs[i]?).any (fun g=>g.name== "allotment/allotmenttop.TopGiven")==(i==3))=true:=by kernel_rfl
theorem yah:(List.range' 190 38).all (fun i=>(Tryz.prog.funcs[i]?).any (fun g=>g.name== "allotment/allotmenttop.TopGiven")==(i==3))=true:=by kernel_rfl
theorem ycr:(List.range' 228 38).all (fun i=>(Tryz.prog.funcs[i]?).any (fun g=>g.name== "allotment/allotmenttop.TopGiven")==(i==3))=true:=by kernel_rfl
theorem yaz:(List.range' 266 38).all (fun i=>(Tryz.prog.funcs[i]?).any (fun g=>g.name== "allotment/allotmenttop.TopGiven")==(i==3))=true:=by kernel_rfl
theorem ybr:(List.range' 304 38).all (fun i=>(Tryz.prog.funcs[i]?).any (fun g=>g.name== "allotment/allotmenttop.TopGiven")==(i==3))=true:=by kernel_rfl
theorem z5t:(List.range' 342 29).all (fun i=>(Tryz.prog.funcs[i]?).any (fun g=>g.name== "allotment/allotmenttop.TopGiven")==(i==3))=true:=by kernel_rfl
theorem z3e:Tryz.prog.funcNamed "allotment/allotmenttop.TopGiven"=some 3:=by
 refine z4t (n:=371) (by kernel_rfl) (fun i hi=>?_) (by kernel_rfl);by_cases b:i<38
 ·exact zc7 ycc i (by omega) (by omega)
 by_cases j:i<76
 ·exact zc7 ycj i (by omega) (by omega)
 by_cases l:i<114
 ·exact zc7 ycm i (by omega) (by omega)
 by_cases m:i<152
 ·exact zc7 z9z i (by omega) (by omega)
 by_cases o:i<190
 ·exact zc7 yao i (by omega) (by omega)
 by_cases p:i<228
 ·exact zc7 yah i (by omega) (by omega)
 by_cases q:i<266
 ·exact zc7 ycr i (by omega) (by omega)
 by_cases r:i<304
 ·exact zc7 yaz i (by omega) (by omega)
 by_cases s:i<342
 ·exact zc7 ybr i (by omega) (by omega)
 exact zc7 z5t i (by omega) (by omega)
theorem z0n:joinedFacts Tryz.pinned.checked.prog 3 Tryz.f3 Rows.topGivenSpec Rows.topGivenRow=true:=by
 unfold joinedFacts;simp only[Bool.and_eq_true];repeat' apply And.intro
 all_goals (as_aux_lemma=>kernel_rfl)
theorem topGiven_holds:Rows.TopGivenSaid:=
 OpenClaim.holds_of_wide 3 Tryz.f3 rfl rfl rfl rfl rfl rfl rfl ⟨rfl,rfl,rfl,rfl,rfl⟩ rfl rfl rfl rfl rfl z3e Tryz.func3 z0n
  (of_decide_eq_true (by kernel_rfl)) (by unfold Func.isWrapper;first|(rw[if_pos (by decide +kernel)];kernel_rfl)|(rw[if_neg (by decide +kernel)];exact⟨rfl,rfl⟩))
  (fun os b H enc _=>topGiven_lifted os b H enc)
end Go.Proofs.YtkbddndcegpllaaGreat
