/- Whatever shape and choices, the law TopAdopted answers true: one who lives adopts all dead ones, one after another, and is well with each; then nothing is loose, all is sound, no block is another one. -/
import Derived.Test.YtkbddndcegpllaaGreatBt44

set_option linter.all false
set_option maxHeartbeats 4000000
set_option maxRecDepth 100000
namespace Go.Proofs.YtkbddndcegpllaaGreat

open Go.RowKit Go.ChangeShapes Go.WideShapes Go.ChangeAt

theorem topAdopted_lifted(os:Os)(l:os.Started)(H:Type)(enc:TypeId × Value->H):
  ReturnsInHanded {} Tryz.checked os 11 .any (Rows.topAdoptedSpec.pre6 enc Tryz.prog Tryz.f11 Rows.topAdoptedRow.domain false) (Rows.topAdoptedSpec.post enc Tryz.prog Tryz.f11 false true false false):=by
 refine returnsInHanded_of_change_sized (C:=Tryz.checked) own l (by kernel_rfl) Tryz.func11
  (ChangeSpec.witness6 (enc:=enc) (C:=Tryz.checked) false ⟨#[], #[.agg #[.int .i64 0,.int .i64 0,.int .i64 0],.slice none 0 0], []⟩ 8 (by kernel_rfl) (by kernel_rfl) (by kernel_rfl) (by kernel_rfl)) ?_
 intro W n args E L r i G _ m _;have B:(DataW.weightsEach Tryz.prog (Tryz.f11.params.toList++Rows.topAdoptedSpec.plain.varTypes Tryz.prog) (E++L)).all (·<=reachBytes)=true:=m;have b:∀ (j:Nat) t v,Tryz.f11.params[j]?=some t->args[j]?=some v->Value.okWide Tryz.prog W .any n t v:=i;have y:=G;obtain⟨p,q,o,O,rfl,_,_⟩:=G;have F:DataW.TrodAll enc Tryz.prog W 0 (fun _=>true) true Tryz.f11.params.toList args.toList E p:=o;clear o i m;rw[Tryz.params11]at F b B;obtain⟨rfl,rfl⟩:=trodVars_none O;obtain⟨D,V,Y,I,Z,q0,z,rfl,rfl,M,r0⟩:=trodAll_cons F;obtain⟨s,X,d1,J,p1,q1,rfl,rfl,rfl,N,r1⟩:=trodAll_cons r0;obtain⟨rfl,rfl,rfl⟩:=trodAll_nil r1;obtain rfl:args= #[D,s]:=by cases args;simp_all
 have key:Calls Tryz.prog 11 #[D,s] W fun e W'=>e= .returned (.bool true)/\Below W.heap.size W W':=by obtain⟨sp,T,U,rfl,_,_,_⟩:=z3u Tryz.underlying23 Tryz.underlying3 Tryz.underlying3 Tryz.underlying3 (by kernel_rfl) (by kernel_rfl) (by kernel_rfl) rfl rfl rfl (by kernel_rfl) (b 0 _ D rfl rfl) M;obtain⟨xs,S⟩:=z6m (b 1 _ s rfl rfl) N;exact adopted_any ⟨sp,T,U⟩ xs s W S
 exact key.mono fun e W' ⟨R,hb⟩=>⟨_,R,z6a laidOut (by kernel_rfl) Tryz.underlying4 rfl (by kernel_rfl) ⟨rfl,rfl,rfl⟩ y hb⟩
theorem z4t{P:Program}{b:String}{f n:Nat}(l:P.funcs.size=n)(h:∀ i,i<n->(P.funcs[i]?).any (fun g=>g.name==b)=(i==f))(j:(List.range n).filter (fun i=>i==f)= [f]):P.funcNamed b=some f:=by
 unfold Program.funcNamed;rw[l,List.filter_congr (q:=fun i=>i==f) (fun i hi=>h i (List.mem_range.1 hi)),j]
theorem zc7{P:Program}{b:String}{f:Nat}(a k:Nat)(h:(List.range' a k).all (fun i=>(P.funcs[i]?).any (fun g=>g.name==b)==(i==f))=true)(i:Nat)(j:a<=i)(l:i<a+k):(P.funcs[i]?).any (fun g=>g.name==b)=(i==f):=
 eq_of_beq (List.all_eq_true.1 h i (List.mem_range'_1.2 ⟨j,l⟩))
theorem z3e:Tryz.prog.funcNamed "allotment/allotmenttop.TopAdopted"=some 11:=by
 refine z4t (n:=371) (by kernel_rfl) (fun i hi=>?_) (by kernel_rfl);by_cases b:i<75
 ·exact zc7 0 75 (by as_aux_lemma=>kernel_rfl) i (by omega) (by omega)
 by_cases j:i<150
 ·exact zc7 75 75 (by as_aux_lemma=>kernel_rfl) i (by omega) (by omega)
 by_cases l:i<225
 ·exact zc7 150 75 (by as_aux_lemma=>kernel_rfl) i (by omega) (by omega)
 by_cases m:i<300
 ·exact zc7 225 75 (by as_aux_lemma=>kernel_rfl) i (by omega) (by omega)
 exact zc7 300 71 (by as_aux_lemma=>kernel_rfl) i (by omega) (by omega)
theorem z0n:joinedFacts Tryz.pinned.checked.prog 11 Tryz.f11 Rows.topAdoptedSpec Rows.topAdoptedRow=true:=by
 unfold joinedFacts;simp only[Bool.and_eq_true];repeat' apply And.intro
 all_goals (as_aux_lemma=>kernel_rfl)
theorem topAdopted_holds:Rows.TopAdoptedSaid:=
 OpenClaim.holds_of_wide 11 Tryz.f11 rfl rfl rfl rfl rfl rfl rfl ⟨rfl,rfl,rfl,rfl,rfl⟩ rfl rfl rfl rfl rfl z3e Tryz.func11 z0n
  (of_decide_eq_true (by kernel_rfl)) (by unfold Func.isWrapper;first|(rw[if_pos (by decide +kernel)];kernel_rfl)|(rw[if_neg (by decide +kernel)];exact⟨rfl,rfl⟩))
  (fun os b H enc _=>topAdopted_lifted os b H enc)
end Go.Proofs.YtkbddndcegpllaaGreat
