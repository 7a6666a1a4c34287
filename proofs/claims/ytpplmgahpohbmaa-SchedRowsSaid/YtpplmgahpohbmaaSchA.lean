/- The law's awake. -/
import Derived.Test.YtpplmgahpohbmaaSchK
namespace Go.Proofs.Ytpplmgahpohbmaa
open Go.RowKit Fl

theorem RdB.new {w : World} {g : Nat} {l : List Bool} {t : TypeId} (hg : w.heap[g]? = some (.cells (l.map Value.bool).toArray t (0, 0))) (hn : (l.length : Int) ≤ 9223372036854775807) : RdB w (.slice (some ⟨g, 0, .none⟩) l.length l.length) l := by
  have := RdS.new (sz := 1) (n := l.length) hg (by simp) hn
  show RdS w 1 _ _ _
  simpa using this

set_option maxHeartbeats 1000000 in
theorem awake_any (w : World) : Calls Try.prog 7 #[] w fun e w' => e = .returned (.bool true) ∧ Below w.heap.size w w' := by
  have t1 : turnsR [1] 2 = [stepC 1, stepC 1] := by decide
  have t2 : turnsR [2] 2 = [stepC 2, stepC 2] := by decide
  have t3 : weaveL [stepC 1, stepC 1] [stepC 2, stepC 2] [true, false] = [stepC 2, stepC 1, stepC 1, stepC 2] := by decide
  have t1 := Lib.hid t1
  have t2 := Lib.hid t2
  have t3 := Lib.hid t3
  go_enter Try.func7, Try.ntmps7
  go_wp2_with fail
  refine (alone_any 1 2 _ (by omega) (by omega)).mono ?_
  rintro e w1 ⟨v1, rfl, hb1, ho1⟩
  go_wp2_with fail
  refine (alone_any 2 2 _ (by omega) (by omega)).mono ?_
  rintro e w2 ⟨v2, rfl, hb2, ho2⟩
  rw [t1.out] at ho1
  rw [t2.out] at ho2
  have hs1 := hb1.size
  have r1 := ho1.rd.below hb2
  have r2 := ho2.rd
  obtain ⟨a1, c1, rfl, _, _, _⟩ := id r1
  obtain ⟨a2, c2, rfl, _, _, _⟩ := id r2
  have hb12 : Below w.heap.size w w2 := hb1.trans (hb2.mono hs1)
  have hs2 := hb12.size
  go_wp2_with fail
  refine (weave_any _ _ [true, false] _ _ _ _ (r1.below ((Below.refl _ _).alloc (Nat.le_refl _) _)) (r2.below ((Below.refl _ _).alloc (Nat.le_refl _) _)) (RdB.new (heap_alloc_new w2 _) (by simp)) (by simp)).mono ?_
  rintro e w3 ⟨v3, rfl, hb3, ho3⟩
  rw [t3.out] at ho3
  have r3 := ho3.rd
  obtain ⟨a3, c3, rfl, hc3, hcm3, hrow⟩ := id r3
  obtain ⟨b, off, rfl, hlt, hcs⟩ := hrow (by simp)
  have k0 : w3.cell? ⟨b, off, .none⟩ = some (.int .i64 3) := hcs 0 0 (by simp) (by omega)
  have k1 : w3.cell? ⟨b, off + 1, .none⟩ = some (.int .i64 2) := hcs 0 1 (by simp) (by omega)
  have k2 : w3.cell? ⟨b, off + 6 + 1, .none⟩ = some (.int .i64 1) := hcs 1 1 (by simp) (by omega)
  have k3 : w3.cell? ⟨b, off + 12 + 1, .none⟩ = some (.int .i64 1) := hcs 2 1 (by simp) (by omega)
  have k4 : w3.cell? ⟨b, off + 18 + 1, .none⟩ = some (.int .i64 2) := hcs 3 1 (by simp) (by omega)
  have hfin : Below w.heap.size w w3 := (hb12.alloc hs2 _).trans (hb3.mono (by simp; omega))
  clear hcs hrow hc3 hcm3
  go_wp2
  go_ret
  exact ⟨rfl, hfin⟩
end Go.Proofs.Ytpplmgahpohbmaa
