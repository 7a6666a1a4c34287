/- Small helpers for walks: what stays when a call has only made memory of its own, and drawn regions whose operations only read or make memory. -/
import Derived.Test.YtkeiehgojclecaaDoorRows

import Derived.Handy

import Derived.WalkSpells

import Derived.Lib.Hide

import Derived.Laws.CopyOwn

import Derived.WalkLawsBesides

import Derived.Deep.QuietTactic

import Derived.BigQuiet

import Derived.RegionTactic

import Derived.Deep.RegionHeld3

import Derived.Deep.DeepCutAuto

namespace Go.Proofs.YtkeiehgojclecaaDoor

open Go.RowKit

theorem ret_int {k : IntKind} {a b : Int} (h : a = b) : Ending.returned (.int k a) = Ending.returned (.int k b) := by rw [h]
theorem ret_bool {a b : Bool} (h : a = b) : Ending.returned (.bool a) = Ending.returned (.bool b) := by rw [h]
theorem bool_eq_of {p q : Bool} (h : p = true ↔ q = true) : (p == q) = true := by cases p <;> cases q <;> simp_all

/-- A cell that is there lies in a block that is there. -/
theorem cell_lt {w : World} {b o : Nat} {v : Value} (h : w.cell? ⟨b, o, .none⟩ = some v) : b < w.heap.size := by
  rcases Nat.lt_or_ge b w.heap.size with h' | h'
  · exact h'
  · simp [World.cell?, Array.getElem?_eq_none h'] at h

/-- Cells that were there are there still, behind a call that made memory of its own alone. -/
theorem keepF {w w' : World} (hb : Below w.heap.size w w') : ∀ b o v, w.cell? ⟨b, o, .none⟩ = some v → w'.cell? ⟨b, o, .none⟩ = some v :=
  fun b o v h => by rw [hb.cell (cell_lt h)]; exact h
theorem belowStep {B : Nat} {w a b : World} (hB : w.heap.size = B) (h : Below B w a) (hb : Below a.heap.size a b) : Below B w b :=
  h.trans (hb.mono (by have := h.size; omega))
theorem belowTrans {w a b : World} (h : Below w.heap.size w a) (hb : Below a.heap.size a b) : Below w.heap.size w b :=
  h.trans (hb.mono h.size)

theorem bcell {W w1 : World} (hb : Below W.heap.size W w1) : ∀ b o, b < W.heap.size → w1.cell? ⟨b, o, .none⟩ = W.cell? ⟨b, o, .none⟩ := fun b o h => hb.cell (p := ⟨b, o, .none⟩) h
theorem bfree {W w1 : World} (hb : Below W.heap.size W w1) : ∀ b o, b < W.heap.size → w1.frozen? ⟨b, o, .none⟩ = W.frozen? ⟨b, o, .none⟩ := fun b o h => hb.frozen (p := ⟨b, o, .none⟩) h
theorem rowCells {w : World} {b : Nat} {cs : Array Value} {t : TypeId} (h : w.heap[b]? = some (.cells cs t (0, 0))) : ∀ i, w.cell? ⟨b, i, .none⟩ = cs[i]? := fun i => cell_of_row w b i cs t (0, 0) h
theorem rowFree {w : World} {b : Nat} {cs : Array Value} {t : TypeId} (h : w.heap[b]? = some (.cells cs t (0, 0))) : ∀ i, w.frozen? ⟨b, i, .none⟩ = false := fun i => by simp [World.frozen?, h]
theorem two_blocks (w : World) (a b : Obj) : ((w.alloc a).alloc b).heap[w.heap.size]? = some a ∧ ((w.alloc a).alloc b).heap[w.heap.size + 1]? = some b ∧ ((w.alloc a).alloc b).heap.size = w.heap.size + 2 ∧ Below w.heap.size w ((w.alloc a).alloc b) := by
  refine ⟨?_, ?_, by simp, by go_grown⟩
  · rw [Below.heap_alloc _ _ _ (by simp)]; exact heap_alloc_new w a
  · have := heap_alloc_new (w.alloc a) b
    simpa using this
theorem three_blocks (w : World) (a b c : Obj) : (((w.alloc a).alloc b).alloc c).heap[w.heap.size]? = some a ∧ (((w.alloc a).alloc b).alloc c).heap[w.heap.size + 1]? = some b ∧ (((w.alloc a).alloc b).alloc c).heap[w.heap.size + 1 + 1]? = some c ∧ (((w.alloc a).alloc b).alloc c).heap.size = w.heap.size + 3 ∧ Below w.heap.size w (((w.alloc a).alloc b).alloc c) := by
  obtain ⟨h1, h2, h3, h4⟩ := two_blocks w a b
  refine ⟨?_, ?_, ?_, by simp, by go_grown⟩
  · rw [Below.heap_alloc _ _ _ (by omega)]; exact h1
  · rw [Below.heap_alloc _ _ _ (by omega)]; exact h2
  · have := heap_alloc_new ((w.alloc a).alloc b) c
    rw [h3] at this
    exact this
/-- A world in which what was there in 'w' is as it was. -/
def Ext (w : World) := { w' : World // Below w.heap.size w w' }
def Ext.w {w : World} (e : Ext w) : World := e.val
instance Ext.there {w : World} : Nonempty (Ext w) := ⟨⟨w, Below.refl _ _⟩⟩
theorem Ext.below {w : World} (e : Ext w) : Below w.heap.size w e.w := e.property
@[go_sem, simp] theorem Ext.cell {w : World} (e : Ext w) (b o : Nat) (h : b < w.heap.size) : e.w.cell? ⟨b, o, .none⟩ = w.cell? ⟨b, o, .none⟩ := e.below.cell (p := ⟨b, o, .none⟩) h
@[go_sem, simp] theorem Ext.frozen {w : World} (e : Ext w) (b o : Nat) (h : b < w.heap.size) : e.w.frozen? ⟨b, o, .none⟩ = w.frozen? ⟨b, o, .none⟩ := e.below.frozen (p := ⟨b, o, .none⟩) h

/-- A drawn region whose operations read what was there, or call what makes memory of its own: one walk, in the order of the text. -/
theorem wp_region_ext {P : Program} {id : Nat} {Q : Exit → Act → World → Prop} {a : Act} {w : World} {l : List Oper} (hm : P.follows .mixedOrders = true) (hB : Region.lexB .any l.toArray = true)
    (h : wpQuiet P l.toArray (fun w' => ∃ e : Ext w, w' = e.w) (fun a' => ∀ w', (∃ e : Ext w, w' = e.w) → Q .normal a' w') l a) : (Code.region id l.toArray true).wp P Q a w :=
  wp_region_quiet (C := fun w' => ∃ e : Ext w, w' = e.w) hm hB ⟨⟨_, (Below.refl _ _).drew⟩, rfl⟩ (by simpa using h)

theorem ext_of {P : Program} {f : FuncId} {args : Array Value} {w : World} {e : Ext w} {v : Value}
    (h : Calls P f args e.w fun r w'' => r = .returned v ∧ Below e.w.heap.size e.w w'') : Calls P f args e.w fun r w'' => r = .returned v ∧ ∃ e2 : Ext w, w'' = e2.w :=
  h.mono fun _ w'' ⟨hr, hb⟩ => ⟨hr, ⟨w'', belowTrans e.below hb⟩, rfl⟩
theorem ext_same {P : Program} {f : FuncId} {args : Array Value} {w : World} {e : Ext w} {v : Value}
    (h : Calls P f args e.w fun r w'' => r = .returned v ∧ w'' = e.w) : Calls P f args e.w fun r w'' => r = .returned v ∧ ∃ e2 : Ext w, w'' = e2.w :=
  h.mono fun _ _ ⟨hr, hb⟩ => ⟨hr, e, hb⟩
end Go.Proofs.YtkeiehgojclecaaDoor
