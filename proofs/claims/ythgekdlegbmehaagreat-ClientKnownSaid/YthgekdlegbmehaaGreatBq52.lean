/- Texts bound together: LwD AwP. -/
import Derived.Test.YthgekdlegbmehaaGreatBq45

set_option linter.all false
namespace Go.Proofs.YthgekdlegbmehaaGreat

open Go.RowKit

structure RowE (B:Nat) (F:Nat->Prop) (W:World) (p b:Nat) (v:Value) (es:List Ev):Prop where
 own:W.ownsRow B 37 8 v es.length (es.flatMap fun e=> e.cells.toList)
 ap:∀ g,v.ownBlock=some g->¬ F g/\g≠p/\g≠b
section

variable {B:Nat} {F:Nat->Prop} {W W':World} {q p b:Nat} {s:Sh} {k:Kl} {m:Mem} {v v':Value} {es xs:List Ev}

theorem RowE.nil:RowE B F W p b (.slice none 0 0) []:=⟨World.ownsRow_nil _ _ _ _,fun g hg=> by simp [Value.ownBlock] at hg⟩
theorem RowE.only (h:RowE B F W p b v es) (ho:Only (fun i=> F i\/i=p\/i=b) W W'):RowE B (grow F W W') W' p b v es:=by
 refine ⟨zas h.own fun k hk=> ho.block k (h.own.lt k hk).2 fun e=> ?_,fun g hg=> ⟨zif (h.ap g hg).1 (h.own.lt g hg).2,(h.ap g hg).2⟩⟩
 rcases e with e | e | e
 ·exact (h.ap k hk).1 e
 ·exact (h.ap k hk).2.1 e
 ·exact (h.ap k hk).2.2 e
theorem RowE.below (h:RowE B F W p b v es) (hb:Below W.heap.size W W'):RowE B F W' p b v es:=
 ⟨zas h.own fun k hk=> hb.block k (h.own.lt k hk).2,h.ap⟩
theorem RowE.rd (h:RowE B F W p b v es):RdE W v es:=zut h.own
theorem RowE.put (h:RowE B F W p b v es) (hc:CW B F W q p b s k m) (hg:W.grownBy W' v.ownBlock)
  (ho:W'.ownsRow B 37 8 v' (es.length + xs.length) ((es.flatMap fun e=> e.cells.toList) ++ xs.flatMap fun e=> e.cells.toList))
  (hv:v'.ownBlock=v.ownBlock\/v'.ownBlock=some W.heap.size):CW B F W' q p b s k m/\RowE B F W' p b v' (es ++ xs):=by
 refine ⟨hc.only (G:=fun i=> v.ownBlock=some i) ((Only.refl _ W).grown hg fun k hk=> .inl hk) fun i hi=> h.ap i hi,⟨?_,fun g hg'=> ?_⟩⟩
 ·rw [List.length_append,List.flatMap_append];exact ho
 ·rcases hv with hv | hv
  ·exact h.ap g (hv ▸ hg')
  ·rw [hv] at hg'
   injection hg' with e
   subst e
   exact ⟨fun e=> by have:=hc.kl.lt _ e;omega,Nat.ne_of_gt hc.wd.ltp,Nat.ne_of_gt hc.wd.ltb⟩
end

end Go.Proofs.YthgekdlegbmehaaGreat

namespace Go.Proofs.YthgekdlegbmehaaGreat

namespace Aw

def s1:Sh:=⟨1,1,0⟩
def o1:Op3:=⟨1,0,64⟩
def m0:Mem:=⟨List.replicate 18 0,0,⟨0,0,0,0,0,false⟩⟩
def kk:Nat->Kl × Mem
 | 0=> (((zht 0 0).invoke s1 o1).1,m0)
 | n + 1=> (((kk n).1.step s1 (kk n).2).1,((kk n).1.step s1 (kk n).2).2.1)
def es:Nat->List Ev
 | 0=> []
 | n + 1=> es n ++ ((kk n).1.step s1 (kk n).2).2.2.1
theorem asked:((zht 0 0).invoke s1 o1).2.1.length=1/\((zht 0 0).invoke s1 o1).2.2=0:=by decide +kernel
theorem told:(es 3).map (fun e=> (e.k,e.n))= [(3,64),(5,0)]:=by decide +kernel
theorem few {j:Nat} (h:j<=3):(es j).length<=2:=by
 have:j=0\/j=1\/j=2\/j=3:=by omega
 rcases this with rfl | rfl | rfl | rfl <;> decide +kernel
theorem stp {j:Nat} (h:j < 3):(kk j).2.st < 1000000000:=by
 have:j=0\/j=1\/j=2:=by omega
 rcases this with rfl | rfl | rfl <;> decide +kernel
theorem last:(kk 3).1.rests=true/\(kk 3).1.steps=3:=by decide +kernel
theorem may:mayB s1.p s1.c s1.m=true:=by decide +kernel
end Aw

end Go.Proofs.YthgekdlegbmehaaGreat
