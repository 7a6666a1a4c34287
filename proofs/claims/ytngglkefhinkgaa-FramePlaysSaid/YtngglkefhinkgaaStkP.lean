/- What a stack of frames is in memory, and which blocks a call may have changed. -/
import Derived.Test.YtngglkefhinkgaaBase
import Derived.Deep.AppendLies
import Derived.Deep.RegionLaw
import Derived.Deep.RegionLawGrows
import Derived.Deep.RegionHeldLaw
namespace Go.Proofs.Ytngglkefhinkgaa
open Go.RowKit

/-- Only blocks of F, and new ones, may have changed. -/
structure Only (F : Nat → Prop) (w w' : World) : Prop where
  os : w'.os = w.os
  tape : w'.tape = w.tape
  output : w'.output = w.output
  size : w.heap.size ≤ w'.heap.size
  block : ∀ k, k < w.heap.size → ¬ F k → w'.heap[k]? = w.heap[k]?

theorem Only.refl (F : Nat → Prop) (w : World) : Only F w w := ⟨rfl, rfl, rfl, Nat.le_refl _, fun _ _ _ => rfl⟩
theorem Only.of_below {F : Nat → Prop} {w w' : World} (h : Below w.heap.size w w') : Only F w w' := ⟨h.os, h.tape, h.output, h.size, fun k hk _ => h.block k hk⟩
theorem Only.below {F : Nat → Prop} {w w' : World} {B : Nat} (h : Only F w w') (hB : B ≤ w.heap.size) (hF : ∀ k, F k → B ≤ k) : Below B w w' :=
  ⟨h.os, h.tape, h.output, h.size, fun k hk => h.block k (by omega) (fun hf => by have := hF k hf; omega)⟩
theorem Only.trans {F G : Nat → Prop} {a b c : World} (h : Only F a b) (k : Only G b c) (hG : ∀ i, i < a.heap.size → G i → F i) : Only F a c :=
  ⟨k.os.trans h.os, k.tape.trans h.tape, k.output.trans h.output, Nat.le_trans h.size k.size, fun i hi hf => (k.block i (by have := h.size; omega) (fun hg => hf (hG i hi hg))).trans (h.block i hi hf)⟩
theorem Only.setCell {F : Nat → Prop} {a w : World} (h : Only F a w) {p : Addr} (hp : F p.block ∨ a.heap.size ≤ p.block) (u : Value) : Only F a (w.setCell p u) :=
  ⟨h.os, h.tape, h.output, by simpa [World.setCell] using h.size, fun k hk hf => (Below.heap_setCell w p u k (fun e => by rcases hp with hp | hp; exact hf (e ▸ hp); omega)).trans (h.block k hk hf)⟩
theorem Only.alloc {F : Nat → Prop} {a w : World} (h : Only F a w) (o : Obj) : Only F a (w.alloc o) :=
  ⟨h.os, h.tape, h.output, by have := h.size; simp; omega, fun k hk hf => (Below.heap_alloc w o k (by have := h.size; omega)).trans (h.block k hk hf)⟩
theorem Only.drew {F : Nat → Prop} {a w : World} (h : Only F a w) : Only F a w.drew := ⟨h.os, h.tape, h.output, h.size, h.block⟩
theorem Only.drewN {F : Nat → Prop} {a w : World} (h : Only F a w) (n : Nat) : Only F a (w.drewN n) := ⟨h.os, h.tape, h.output, h.size, h.block⟩
theorem Only.grown {F : Nat → Prop} {a w w' : World} {row : Option Nat} (h : Only F a w) (hg : w.grownBy w' row) (hr : ∀ k, row = some k → F k ∨ a.heap.size ≤ k) : Only F a w' :=
  ⟨hg.os.trans h.os, hg.tape.trans h.tape, hg.output.trans h.output, Nat.le_trans h.size hg.size, fun k hk hf => (hg.block k (by have := h.size; omega) (fun e => by rcases hr k e.symm with h' | h'; exact hf h'; omega)).trans (h.block k hk hf)⟩

/-- A frame: code, pc, registers. -/
structure Fr where
  code : Int
  pc : Int
  regs : List Int
  deriving DecidableEq

def Fr.cells (f : Fr) : List Value := .int .i64 f.code :: .int .i64 f.pc :: f.regs.map (.int .i64)
def flat (fs : List Fr) : List Value := fs.flatMap Fr.cells
def okRegs (fs : List Fr) : Prop := ∀ f ∈ fs, f.regs.length = 8

theorem flat_length {fs : List Fr} (h : okRegs fs) : (flat fs).length = fs.length * 10 := by
  induction fs with
  | nil => rfl
  | cons f fs ih =>
    have h1 := h f (by simp)
    have h2 := ih (fun g hg => h g (by simp [hg]))
    simp only [flat, List.flatMap_cons, List.length_append] at h2 ⊢
    simp only [Fr.cells, List.length_cons, List.length_map, h1, h2]
    omega
theorem flat_append (fs : List Fr) (f : Fr) : flat (fs ++ [f]) = flat fs ++ f.cells := by simp [flat]
theorem flat_get {fs : List Fr} (h : okRegs fs) (i j : Nat) (hi : i < fs.length) (hj : j < 10) : (flat fs)[i * 10 + j]? = (fs[i].cells)[j]? := by
  induction fs generalizing i with
  | nil => simp at hi
  | cons f fs ih =>
    have h1 := h f (by simp)
    have hl : f.cells.length = 10 := by simp [Fr.cells, h1]
    have h2 : okRegs fs := fun g hg => h g (by simp [hg])
    show (f.cells ++ flat fs)[i * 10 + j]? = _
    cases i with
    | zero => rw [List.getElem?_append_left (by omega)]; simp
    | succ i =>
      rw [List.getElem?_append_right (by omega), hl, show (i + 1) * 10 + j - 10 = i * 10 + j from by omega]
      simpa using ih h2 i (by simpa using hi)

/-- The stack that lies at block s: its slice's value, how many may be, its frames. 'B': all of it lies from block B on. -/
structure Stk (T E : TypeId) (B : Nat) (w : World) (s : Nat) (sl : Value) (most : Int) (fs : List Fr) : Prop where
  lies : B ≤ s
  head : w.heap[s]? = some (.cells #[sl, .int .i64 most] T (0, 0))
  owns : w.ownsRow B E 10 sl fs.length (flat fs)
  apart : sl.ownBlock ≠ some s
  regs : okRegs fs
/-- The blocks of a stack. -/
def foot (s : Nat) (sl : Value) : Nat → Prop := fun k => k = s ∨ sl.ownBlock = some k

def zeroFrame : Value := .agg #[.int .i64 0, .int .i64 0, .int .i64 0, .int .i64 0, .int .i64 0, .int .i64 0, .int .i64 0, .int .i64 0, .int .i64 0, .int .i64 0]
def zeroFr : Fr := ⟨0, 0, [0, 0, 0, 0, 0, 0, 0, 0]⟩
def topFr (fs : List Fr) : Fr := fs.getLast?.getD zeroFr
/-- A frame with one of its ten numbers changed. -/
def Fr.put (f : Fr) (j : Nat) (x : Int) : Fr := if j = 0 then { f with code := x } else if j = 1 then { f with pc := x } else { f with regs := f.regs.set (j - 2) x }
theorem Fr.put_cells (f : Fr) (j : Nat) (x : Int) : (f.put j x).cells = f.cells.set j (.int .i64 x) := by
  unfold Fr.put
  match j with
  | 0 => simp [Fr.cells]
  | 1 => simp [Fr.cells]
  | j + 2 => simp [Fr.cells, List.map_set]
theorem Fr.put_regs (f : Fr) (j : Nat) (x : Int) : (f.put j x).regs.length = f.regs.length := by
  unfold Fr.put
  split
  · rfl
  · split <;> simp
def putLast (fs : List Fr) (j : Nat) (x : Int) : List Fr := fs.dropLast ++ [(topFr fs).put j x]
theorem putLast_length {fs : List Fr} (h : fs.length ≠ 0) (j : Nat) (x : Int) : (putLast fs j x).length = fs.length := by simp [putLast]; omega
theorem topFr_snoc (fs : List Fr) (f : Fr) : topFr (fs ++ [f]) = f := by simp [topFr]
theorem split_last {fs : List Fr} (h : fs.length ≠ 0) : fs = fs.dropLast ++ [topFr fs] := by
  have h' : fs ≠ [] := fun e => h (by simp [e])
  have : topFr fs = fs.getLast h' := by simp [topFr, List.getLast?_eq_some_getLast h']
  rw [this]; exact (List.dropLast_concat_getLast h').symm
theorem ownsRow_of_blocks {w w' : World} {B : Nat} {E : TypeId} {size : Nat} {v : Value} {n : Nat} {xs : List Value} (h : w.ownsRow B E size v n xs) (hb : ∀ k, v.ownBlock = some k → w'.heap[k]? = w.heap[k]?) : w'.ownsRow B E size v n xs := by
  refine ⟨h.1, ?_⟩
  rcases h.2 with hn | ⟨g, cap, cur, rfl, h1, h2, r⟩
  · exact .inl hn
  · exact .inr ⟨g, cap, cur, rfl, h1, by rw [hb g rfl]; exact h2, r⟩

section
variable {T E : TypeId} {B : Nat} {w w' : World} {s : Nat} {sl : Value} {most : Int} {fs : List Fr}
theorem Stk.lt (h : Stk T E B w s sl most fs) : s < w.heap.size := (Array.getElem?_eq_some_iff.1 h.head).1
theorem Stk.rowLt (h : Stk T E B w s sl most fs) : ∀ k, sl.ownBlock = some k → B ≤ k ∧ k < w.heap.size := h.owns.lt
theorem Stk.cell0 (h : Stk T E B w s sl most fs) : w.cell? ⟨s, 0, .none⟩ = some sl := by simpa using cell_of_row w s 0 _ T (0, 0) h.head
theorem Stk.cell1 (h : Stk T E B w s sl most fs) : w.cell? ⟨s, 1, .none⟩ = some (.int .i64 most) := by simpa using cell_of_row w s 1 _ T (0, 0) h.head
/-- A world in which its blocks are as they were. -/
theorem Stk.blocks (h : Stk T E B w s sl most fs) (hb : ∀ k, foot s sl k → w'.heap[k]? = w.heap[k]?) : Stk T E B w' s sl most fs :=
  ⟨h.lies, by rw [hb s (.inl rfl)]; exact h.head, ownsRow_of_blocks h.owns (fun k hk => hb k (.inr hk)), h.apart, h.regs⟩
theorem Stk.below (h : Stk T E B w s sl most fs) (hb : Below w.heap.size w w') : Stk T E B w' s sl most fs :=
  h.blocks fun k hk => hb.block k (by rcases hk with rfl | hk; exact h.lt; exact (h.rowLt k hk).2)
theorem Stk.form (h : Stk T E B w s sl most fs) : (sl = .slice none 0 0 ∧ fs = []) ∨ ∃ g cap, sl = .slice (some ⟨g, 0, .none⟩) fs.length cap ∧ fs.length ≤ cap ∧ g < w.heap.size ∧ g ≠ s ∧ B ≤ g ∧ (fs.length : Int) ≤ 9223372036854775807 ∧
    ∀ i j, (hi : i < fs.length) → j < 10 → w.cell? ⟨g, i * 10 + j, .none⟩ = (fs[i].cells)[j]? := by
  rcases h.owns.2 with ⟨h1, h2⟩ | ⟨g, cap, cur, rfl, h1, h2, h3, h4, h5, h6⟩
  · exact .inl ⟨h1, List.eq_nil_of_length_eq_zero h2⟩
  · refine .inr ⟨g, cap, rfl, h3, (Array.getElem?_eq_some_iff.1 h2).1, fun e => h.apart (by rw [e]; rfl), h1, by simp only [maxLen] at h4; omega, fun i j hi hj => ?_⟩
    rw [cell_of_row w g _ cur E (0, 0) h2, ← flat_get h.regs i j hi hj, ← h6, List.getElem?_take, if_pos (by omega)]
    simp
theorem Only.stk {F : Nat → Prop} (ho : Only F w w') (h : Stk T E B w s sl most fs) (hF : ∀ k, foot s sl k → ¬ F k) : Stk T E B w' s sl most fs :=
  h.blocks fun k hk => ho.block k (by rcases hk with rfl | hk; exact h.lt; exact (h.rowLt k hk).2) (hF k hk)
theorem Stk_setLast {g cap j : Nat} {x : Int} (h : Stk T E B w s (.slice (some ⟨g, 0, .none⟩) fs.length cap) most fs) (h0 : fs.length ≠ 0) (hj : j < 10) :
    Stk T E B (w.setCell ⟨g, (fs.length - 1) * 10 + j, .none⟩ (.int .i64 x)) s (.slice (some ⟨g, 0, .none⟩) fs.length cap) most (putLast fs j x) := by
  obtain ⟨h1, h2, h3, h4, h5⟩ := h
  have hgs : s ≠ g := fun e => h4 (by rw [e]; rfl)
  have e := split_last h0
  have hreg : okRegs (putLast fs j x) := by
    intro f hf
    rcases List.mem_append.1 hf with hf | hf
    · exact h5 f (List.dropLast_subset _ hf)
    · rw [List.mem_singleton.1 hf, Fr.put_regs]
      have hm : topFr fs ∈ fs.dropLast ++ [topFr fs] := by simp
      rw [← e] at hm
      exact h5 _ hm
  have hrd : okRegs fs.dropLast := fun f hf => h5 f (List.dropLast_subset _ hf)
  have hl := flat_length hrd
  rw [List.length_dropLast] at hl
  have hflat : flat (putLast fs j x) = (flat fs).set ((fs.length - 1) * 10 + j) (.int .i64 x) := by
    have h7 : flat fs = flat fs.dropLast ++ (topFr fs).cells := by rw [← flat_append, ← e]
    rw [putLast, flat_append, Fr.put_cells, h7, List.set_append_right _ _ (by omega), hl]
    congr 2
    omega
  refine ⟨h1, by rw [heap_setCell_other _ _ _ _ hgs]; exact h2, ⟨by rw [flat_length hreg], .inr ?_⟩, h4, hreg⟩
  rcases h3.2 with ⟨h, _⟩ | ⟨g', cap', cur, hv, k1, k2, k3, k4, k5, k6⟩
  · cases h
  · obtain ⟨rfl, rfl⟩ : g = g' ∧ cap = cap' := by injection hv with a _ b; injection a with a; injection a with a; exact ⟨a, b⟩
    have hpl := putLast_length h0 j x
    refine ⟨g, cap, _, by rw [hpl], k1, heap_setCell_same w g _ cur E _ k2, by omega, k4, by simpa using k5, ?_⟩
    rw [hpl, hflat, ← k6, Array.toList_setIfInBounds, List.take_set]
end
end Go.Proofs.Ytngglkefhinkgaa
