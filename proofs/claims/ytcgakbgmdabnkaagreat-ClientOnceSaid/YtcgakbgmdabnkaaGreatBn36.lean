/- Texts bound together: CliP StkP StkW StkV. -/
import Derived.Deep.AppendLies

import Derived.Deep.RegionLaw

import Derived.Deep.RegionLawGrows

import Derived.Deep.RegionHeldLaw

import Derived.Test.YtcgakbgmdabnkaaGreatBn5

import Derived.Test.YtcgakbgmdabnkaaGreatBn35

import Derived.Test.YtcgakbgmdabnkaaGreatBn3

set_option linter.all false
/- A client, plain: what it is asked, what it tells. -/
namespace Go.Proofs.YtcgakbgmdabnkaaGreat

/-- An operation: kind, place, words. -/
structure Op3 where
  k : Int
  a : Int
  n : Int
  deriving DecidableEq
def Op3.zero : Op3 := ⟨0, 0, 0⟩
/-- Is an operation (kind, place, words) of a client answered at once with ErrArg? -/
def onceBad (s : Sh) (c k a n : Int) : Bool := (k == 4 && (decide (statusIx s.p s.c s.m a < 0) || a == c)) || ((k == 1 || k == 3) && !lenB n) || ((k == 2 || k == 3) && !spB s a)
/-- .. with ErrNoMemory? -/
def onceNo (s : Sh) (k n : Int) : Bool := (k == 1 || k == 3) && wi n 33 512 && decide (s.p < runV n)
def onceB (s : Sh) (c k a n : Int) : Bool := onceBad s c k a n || onceNo s k n
def onceE (s : Sh) (c k a n : Int) : Int := if onceBad s c k a n = true then 1 else if onceNo s k n = true then 3 else 0
/-- A client. It rests where it has no job. -/
structure Kl where
  c : Int
  first : Int
  op : Op3
  job : Option Jb
  told : Bool
  steps : Int
  deriving DecidableEq
def klNew (c first : Int) : Kl := ⟨c, first, Op3.zero, none, false, 0⟩
def Kl.rests (k : Kl) : Bool := !k.job.isSome
def evAsked (c : Int) (o : Op3) : Ev := ⟨2, c, o.k, o.a, o.n, 0, 0, 0⟩
def evTook (c at' n : Int) : Ev := ⟨3, c, 0, 0, 0, at', n, 0⟩
def evGave (c at' : Int) : Ev := ⟨4, c, 0, 0, 0, at', 0, 0⟩
def evAnswer (c : Int) (o : Op3) (at' e : Int) : Ev := ⟨5, c, o.k, o.a, o.n, at', 0, e⟩
/-- What is asked of it: the client, the events, the error. -/
def Kl.invoke (s : Sh) (k : Kl) (o : Op3) : Kl × List Ev × Int :=
  if k.rests = false then (k, [], 4)
  else if o.k < 1 ∨ 4 < o.k then (k, [], 1)
  else if onceB s k.c o.k o.a o.n = true then ({ k with op := o, told := false, steps := 0 }, [evAsked k.c o, evAnswer k.c o 0 (onceE s k.c o.k o.a o.n)], 0)
  else ({ k with op := o, told := false, steps := 0, job := some (jbNew s k.c k.first o.k o.a o.n) }, [evAsked k.c o], 0)
def tookAt : Option Blk → Int
  | some b => b.at'
  | none => 0
/-- What an access brought about. -/
def Kl.tells (k : Kl) (j : Jb) : List Ev :=
  (if j.gave = true ∧ k.told = false then [evGave k.c k.op.a] else []) ++
  (if j.done = true then (match j.took with | some b => [evTook k.c b.at' b.len] | none => []) ++ [evAnswer k.c k.op (tookAt j.took) j.err] else [])
def Kl.after (k : Kl) (j : Jb) : Kl := { k with job := if j.done = true then none else some j, told := k.told || j.gave, steps := k.steps + 1 }
/-- One access of its operation. -/
def Kl.step (s : Sh) (k : Kl) (m : Mem) : Kl × Mem × List Ev × Int := match k.job with
  | none => (k, m, [], 2)
  | some j => (k.after (j.step s k.c m).1, (j.step s k.c m).2, k.tells (j.step s k.c m).1, 0)
/-- What a client keeps. -/
structure klOk (s : Sh) (k : Kl) : Prop where
  cl : 0 ≤ k.c ∧ k.c < s.c
  fi : 0 ≤ k.first ∧ k.first < s.p
  jb : ∀ j, k.job = some j → jbIs s k.c j ∧ j.done = false ∧ (j.gave = true → k.told = true) ∧ (1 ≤ k.op.k ∧ k.op.k ≤ 4)
  st : 0 ≤ k.steps
  lf : ∀ j, k.job = some j → jbLeft s j + k.steps ≤ 110 * s.p + 4 * s.m + 60
end Go.Proofs.YtcgakbgmdabnkaaGreat
/- What a stack of frames is in memory, and which blocks a call may have changed. -/
namespace Go.Proofs.YtcgakbgmdabnkaaGreat

open Go.RowKit

/-- A frame: code, pc, registers. -/
structure Fr where
  code : Int
  pc : Int
  regs : List Int
  deriving DecidableEq

def Fr.cells (f : Fr) : List Value := .int .i64 f.code :: .int .i64 f.pc :: f.regs.map (.int .i64)
def flat (fs : List Fr) : List Value := fs.flatMap Fr.cells
def okRegs (fs : List Fr) : Prop := ∀ f ∈ fs, f.regs.length = 8

theorem flat_length {fs : List Fr} (h : okRegs fs) : (flat fs).length = fs.length * 10 := by
  induction fs with
  | nil => rfl
  | cons f fs ih =>
    have h1 := h f (by simp)
    have h2 := ih (fun g hg => h g (by simp [hg]))
    simp only [flat, List.flatMap_cons, List.length_append] at h2 ⊢
    simp only [Fr.cells, List.length_cons, List.length_map, h1, h2]
    omega
theorem flat_append (fs : List Fr) (f : Fr) : flat (fs ++ [f]) = flat fs ++ f.cells := by simp [flat]
theorem flat_get {fs : List Fr} (h : okRegs fs) (i j : Nat) (hi : i < fs.length) (hj : j < 10) : (flat fs)[i * 10 + j]? = (fs[i].cells)[j]? := by
  induction fs generalizing i with
  | nil => simp at hi
  | cons f fs ih =>
    have h1 := h f (by simp)
    have hl : f.cells.length = 10 := by simp [Fr.cells, h1]
    have h2 : okRegs fs := fun g hg => h g (by simp [hg])
    show (f.cells ++ flat fs)[i * 10 + j]? = _
    cases i with
    | zero => rw [List.getElem?_append_left (by omega)]; simp
    | succ i =>
      rw [List.getElem?_append_right (by omega), hl, show (i + 1) * 10 + j - 10 = i * 10 + j from by omega]
      simpa using ih h2 i (by simpa using hi)

/-- The stack that lies at block s: its slice's value, how many may be, its frames. 'B': all of it lies from block B on. -/
structure Stk (T E : TypeId) (B : Nat) (w : World) (s : Nat) (sl : Value) (most : Int) (fs : List Fr) : Prop where
  lies : B ≤ s
  head : w.heap[s]? = some (.cells #[sl, .int .i64 most] T (0, 0))
  owns : w.ownsRow B E 10 sl fs.length (flat fs)
  apart : sl.ownBlock ≠ some s
  regs : okRegs fs

def zeroFrame : Value := .agg #[.int .i64 0, .int .i64 0, .int .i64 0, .int .i64 0, .int .i64 0, .int .i64 0, .int .i64 0, .int .i64 0, .int .i64 0, .int .i64 0]
def zeroFr : Fr := ⟨0, 0, [0, 0, 0, 0, 0, 0, 0, 0]⟩
def topFr (fs : List Fr) : Fr := fs.getLast?.getD zeroFr
/-- A frame with one of its ten numbers changed. -/
def Fr.put (f : Fr) (j : Nat) (x : Int) : Fr := if j = 0 then { f with code := x } else if j = 1 then { f with pc := x } else { f with regs := f.regs.set (j - 2) x }
theorem Fr.put_cells (f : Fr) (j : Nat) (x : Int) : (f.put j x).cells = f.cells.set j (.int .i64 x) := by
  unfold Fr.put
  match j with
  | 0 => simp [Fr.cells]
  | 1 => simp [Fr.cells]
  | j + 2 => simp [Fr.cells, List.map_set]
theorem Fr.put_regs (f : Fr) (j : Nat) (x : Int) : (f.put j x).regs.length = f.regs.length := by
  unfold Fr.put
  split
  · rfl
  · split <;> simp
def putLast (fs : List Fr) (j : Nat) (x : Int) : List Fr := fs.dropLast ++ [(topFr fs).put j x]
theorem putLast_length {fs : List Fr} (h : fs.length ≠ 0) (j : Nat) (x : Int) : (putLast fs j x).length = fs.length := by simp [putLast]; omega
theorem split_last {fs : List Fr} (h : fs.length ≠ 0) : fs = fs.dropLast ++ [topFr fs] := by
  have h' : fs ≠ [] := fun e => h (by simp [e])
  have : topFr fs = fs.getLast h' := by simp [topFr, List.getLast?_eq_some_getLast h']
  rw [this]; exact (List.dropLast_concat_getLast h').symm

section

variable {T E : TypeId} {B : Nat} {w w' : World} {s : Nat} {sl : Value} {most : Int} {fs : List Fr}

theorem Stk.lt (h : Stk T E B w s sl most fs) : s < w.heap.size := (Array.getElem?_eq_some_iff.1 h.head).1
theorem Stk.rowLt (h : Stk T E B w s sl most fs) : ∀ k, sl.ownBlock = some k → B ≤ k ∧ k < w.heap.size := h.owns.lt
theorem Stk.cell0 (h : Stk T E B w s sl most fs) : w.cell? ⟨s, 0, .none⟩ = some sl := by simpa using cell_of_row w s 0 _ T (0, 0) h.head
theorem Stk.cell1 (h : Stk T E B w s sl most fs) : w.cell? ⟨s, 1, .none⟩ = some (.int .i64 most) := by simpa using cell_of_row w s 1 _ T (0, 0) h.head
/-- A world in which its blocks are as they were. -/
theorem Stk.blocks (h : Stk T E B w s sl most fs) (hb : ∀ k, foot s sl k → w'.heap[k]? = w.heap[k]?) : Stk T E B w' s sl most fs :=
  ⟨h.lies, by rw [hb s (.inl rfl)]; exact h.head, ownsRow_of_blocks h.owns (fun k hk => hb k (.inr hk)), h.apart, h.regs⟩
theorem Stk.below (h : Stk T E B w s sl most fs) (hb : Below w.heap.size w w') : Stk T E B w' s sl most fs :=
  h.blocks fun k hk => hb.block k (by rcases hk with rfl | hk; exact h.lt; exact (h.rowLt k hk).2)
theorem Stk.form (h : Stk T E B w s sl most fs) : (sl = .slice none 0 0 ∧ fs = []) ∨ ∃ g cap, sl = .slice (some ⟨g, 0, .none⟩) fs.length cap ∧ fs.length ≤ cap ∧ g < w.heap.size ∧ g ≠ s ∧ B ≤ g ∧ (fs.length : Int) ≤ 9223372036854775807 ∧
    ∀ i j, (hi : i < fs.length) → j < 10 → w.cell? ⟨g, i * 10 + j, .none⟩ = (fs[i].cells)[j]? := by
  rcases h.owns.2 with ⟨h1, h2⟩ | ⟨g, cap, cur, rfl, h1, h2, h3, h4, h5, h6⟩
  · exact .inl ⟨h1, List.eq_nil_of_length_eq_zero h2⟩
  · refine .inr ⟨g, cap, rfl, h3, (Array.getElem?_eq_some_iff.1 h2).1, fun e => h.apart (by rw [e]; rfl), h1, by simp only [maxLen] at h4; omega, fun i j hi hj => ?_⟩
    rw [cell_of_row w g _ cur E (0, 0) h2, ← flat_get h.regs i j hi hj, ← h6, List.getElem?_take, if_pos (by omega)]
    simp
theorem Only.stk {F : Nat → Prop} (ho : Only F w w') (h : Stk T E B w s sl most fs) (hF : ∀ k, foot s sl k → ¬ F k) : Stk T E B w' s sl most fs :=
  h.blocks fun k hk => ho.block k (by rcases hk with rfl | hk; exact h.lt; exact (h.rowLt k hk).2) (hF k hk)
theorem Stk_setLast {g cap j : Nat} {x : Int} (h : Stk T E B w s (.slice (some ⟨g, 0, .none⟩) fs.length cap) most fs) (h0 : fs.length ≠ 0) (hj : j < 10) :
    Stk T E B (w.setCell ⟨g, (fs.length - 1) * 10 + j, .none⟩ (.int .i64 x)) s (.slice (some ⟨g, 0, .none⟩) fs.length cap) most (putLast fs j x) := by
  obtain ⟨h1, h2, h3, h4, h5⟩ := h
  have hgs : s ≠ g := fun e => h4 (by rw [e]; rfl)
  have e := split_last h0
  have hreg : okRegs (putLast fs j x) := by
    intro f hf
    rcases List.mem_append.1 hf with hf | hf
    · exact h5 f (List.dropLast_subset _ hf)
    · rw [List.mem_singleton.1 hf, Fr.put_regs]
      have hm : topFr fs ∈ fs.dropLast ++ [topFr fs] := by simp
      rw [← e] at hm
      exact h5 _ hm
  have hrd : okRegs fs.dropLast := fun f hf => h5 f (List.dropLast_subset _ hf)
  have hl := flat_length hrd
  rw [List.length_dropLast] at hl
  have hflat : flat (putLast fs j x) = (flat fs).set ((fs.length - 1) * 10 + j) (.int .i64 x) := by
    have h7 : flat fs = flat fs.dropLast ++ (topFr fs).cells := by rw [← flat_append, ← e]
    rw [putLast, flat_append, Fr.put_cells, h7, List.set_append_right _ _ (by omega), hl]
    congr 2
    omega
  refine ⟨h1, by rw [heap_setCell_other _ _ _ _ hgs]; exact h2, ⟨by rw [flat_length hreg], .inr ?_⟩, h4, hreg⟩
  rcases h3.2 with ⟨h, _⟩ | ⟨g', cap', cur, hv, k1, k2, k3, k4, k5, k6⟩
  · cases h
  · obtain ⟨rfl, rfl⟩ : g = g' ∧ cap = cap' := by injection hv with a _ b; injection a with a; injection a with a; exact ⟨a, b⟩
    have hpl := putLast_length h0 j x
    refine ⟨g, cap, _, by rw [hpl], k1, heap_setCell_same w g _ cur E _ k2, by omega, k4, by simpa using k5, ?_⟩
    rw [hpl, hflat, ← k6, Array.toList_setIfInBounds, List.take_set]
end

end Go.Proofs.YtcgakbgmdabnkaaGreat
/- The walks of the stack of frames (package frame). -/
namespace Go.Proofs.YtcgakbgmdabnkaaGreat

open Go.RowKit

abbrev SK := Stk 175 55

set_option maxHeartbeats 400000 in
theorem stkNew_any (m : Int) (w : World) :
    Calls Tryz.prog 45 #[.int .i64 m] w fun e w' => e = .returned (.pointer (some ⟨w.heap.size, 0, .none⟩)) ∧ w' = w.alloc (.cells #[.slice none 0 0, .int .i64 (if m < 0 ∨ 16 < m then 0 else m)] 175) := by
  go_enter Tryz.func45, Tryz.ntmps45
  go_wp2
  all_goals go_ret
  all_goals exact ⟨rfl, rfl⟩

set_option maxHeartbeats 400000 in
theorem stkDepth_any {B : Nat} {w : World} {s : Nat} {sl : Value} {most : Int} {fs : List Fr} (h : SK B w s sl most fs) :
    Calls Tryz.prog 103 #[.pointer (some ⟨s, 0, .none⟩)] w fun e w' => e = .returned (.int .i64 fs.length) ∧ w' = w := by
  have c0 := h.cell0
  have hfm := h.form
  rcases hfm with ⟨rfl, rfl⟩ | ⟨g, cap, rfl, hcap, hg, hgs, hB, hn, hc⟩
  · clear h
    go_enter Tryz.func103, Tryz.ntmps103
    go_wp2
    all_goals go_ret
    all_goals exact ⟨rfl, rfl⟩
  · clear h hc
    go_enter Tryz.func103, Tryz.ntmps103
    go_wp2
    all_goals go_ret
    all_goals exact ⟨rfl, rfl⟩

/-- Where the last frame lies. -/
def topAddr (sl : Value) (n : Nat) : Option Addr := match sl with
  | .slice (some a) _ _ => if n = 0 then none else some ⟨a.block, (n - 1) * 10, .none⟩
  | _ => none

set_option maxHeartbeats 400000 in
theorem stktop_any {B : Nat} {w : World} {s : Nat} {sl : Value} {most : Int} {fs : List Fr} (h : SK B w s sl most fs) :
    Calls Tryz.prog 113 #[.pointer (some ⟨s, 0, .none⟩)] w fun e w' => e = .returned (.pointer (topAddr sl fs.length)) ∧ ∃ n, w' = w.drewN n := by
  have c0 := h.cell0
  have hfm := h.form
  rcases hfm with ⟨rfl, rfl⟩ | ⟨g, cap, rfl, hcap, hg, hgs, hB, hn, hc⟩
  · go_enter Tryz.func113, Tryz.ntmps113
    go_wp2_with (go_at_call 103; refine (stkDepth_any h).mono ?_; rintro e w1 ⟨rfl, rfl⟩)
    all_goals go_ret
    all_goals exact ⟨rfl, 0, rfl⟩
  · by_cases h0 : fs.length = 0
    · have hl : ((fs.length : Int) == 0) = true := by simp [h0]
      go_enter Tryz.func113, Tryz.ntmps113
      go_wp2_with (go_at_call 103; refine (stkDepth_any h).mono ?_; rintro e w1 ⟨rfl, rfl⟩)
      all_goals go_ret
      all_goals exact ⟨by rw [topAddr, if_pos h0]; rfl, 0, rfl⟩
    · have hl : ((fs.length : Int) == 0) = false := by simpa using h0
      have hp : (1 : Int) ≤ (fs.length : Int) := by omega
      go_enter Tryz.func113, Tryz.ntmps113
      go_wp2_with (go_at_call 103; refine (stkDepth_any h).mono ?_; rintro e w1 ⟨rfl, rfl⟩)
      go_quiet (fail)
      go_wp2
      all_goals go_ret
      exact ⟨by rw [topAddr, if_neg h0]; rfl, nq, rfl⟩

/-- The last frame, its cells one by one. -/
theorem last_cells {B : Nat} {w : World} {s : Nat} {sl : Value} {most : Int} {fs : List Fr} (h : SK B w s sl most fs) (h0 : fs.length ≠ 0) :
    ∃ g cap code pc r0 r1 r2 r3 r4 r5 r6 r7, sl = .slice (some ⟨g, 0, .none⟩) fs.length cap ∧ topAddr sl fs.length = some ⟨g, (fs.length - 1) * 10, .none⟩ ∧ g < w.heap.size ∧ g ≠ s ∧ B ≤ g ∧ topFr fs = ⟨code, pc, [r0, r1, r2, r3, r4, r5, r6, r7]⟩ ∧
      w.cell? ⟨g, (fs.length - 1) * 10, .none⟩ = some (.int .i64 code) ∧ w.cell? ⟨g, (fs.length - 1) * 10 + 1, .none⟩ = some (.int .i64 pc) ∧
      w.cell? ⟨g, (fs.length - 1) * 10 + 2, .none⟩ = some (.int .i64 r0) ∧ w.cell? ⟨g, (fs.length - 1) * 10 + 3, .none⟩ = some (.int .i64 r1) ∧
      w.cell? ⟨g, (fs.length - 1) * 10 + 4, .none⟩ = some (.int .i64 r2) ∧ w.cell? ⟨g, (fs.length - 1) * 10 + 5, .none⟩ = some (.int .i64 r3) ∧
      w.cell? ⟨g, (fs.length - 1) * 10 + 6, .none⟩ = some (.int .i64 r4) ∧ w.cell? ⟨g, (fs.length - 1) * 10 + 7, .none⟩ = some (.int .i64 r5) ∧
      w.cell? ⟨g, (fs.length - 1) * 10 + 8, .none⟩ = some (.int .i64 r6) ∧ w.cell? ⟨g, (fs.length - 1) * 10 + 9, .none⟩ = some (.int .i64 r7) ∧ fs.length ≤ cap ∧ (fs.length : Int) ≤ 9223372036854775807 := by
  rcases h.form with ⟨rfl, rfl⟩ | ⟨g, cap, rfl, hcap, hg, hgs, hB, hn, hc⟩
  · simp at h0
  · have hl : fs.length - 1 < fs.length := by omega
    have hr := h.regs _ (List.getElem_mem hl)
    have ht : topFr fs = fs[fs.length - 1] := by simp [topFr, List.getLast?_eq_getElem?, hl]
    rw [ht]
    generalize hf : fs[fs.length - 1] = f at hr
    have hc' := fun j => hc (fs.length - 1) j hl
    rw [hf] at hc'
    obtain ⟨code, pc, regs⟩ := f
    match regs, hr with
    | [r0, r1, r2, r3, r4, r5, r6, r7], _ =>
      exact ⟨g, cap, code, pc, r0, r1, r2, r3, r4, r5, r6, r7, rfl, by rw [topAddr, if_neg h0], hg, hgs, hB, rfl, hc' 0 (by omega), hc' 1 (by omega), hc' 2 (by omega), hc' 3 (by omega), hc' 4 (by omega), hc' 5 (by omega), hc' 6 (by omega), hc' 7 (by omega), hc' 8 (by omega), hc' 9 (by omega), hcap, hn⟩

theorem cell_free_of {w : World} {b : Nat} {cs : Array Value} {t : TypeId} (h : w.heap[b]? = some (.cells cs t (0, 0))) (i : Nat) : w.frozen? ⟨b, i, .none⟩ = false := by
  simp [World.frozen?, h]
theorem cell_free_row {B : Nat} {w : World} {s : Nat} {g cap n : Nat} {most : Int} {fs : List Fr} (h : SK B w s (.slice (some ⟨g, 0, .none⟩) n cap) most fs) (_h0 : fs.length ≠ 0) (i : Nat) : w.frozen? ⟨g, i, .none⟩ = false := by
  rcases h.owns.2 with ⟨h1, _⟩ | ⟨g', cap', cur, hv, k1, k2, _⟩
  · cases h1
  · obtain rfl : g = g' := by injection hv with a _ b; injection a with a; injection a with a
    exact cell_free_of k2 i
set_option maxHeartbeats 400000 in
theorem stkGo_any {B : Nat} {w : World} {s : Nat} {sl : Value} {most pc' : Int} {fs : List Fr} (h : SK B w s sl most fs) (h0 : fs.length ≠ 0) :
    Calls Tryz.prog 53 #[.pointer (some ⟨s, 0, .none⟩), .int .i64 pc'] w fun e w' => e = .returned (.bool true) ∧ Only (foot s sl) w w' ∧ SK B w' s sl most (putLast fs 1 pc') := by
  obtain ⟨g, cap, code, pc, r0, r1, r2, r3, r4, r5, r6, r7, rfl, ha, hg, hgs, hB, ht, _, c1, _, _, _, _, _, _, _, _, hcap, hn⟩ := last_cells h h0
  have htop := stktop_any h
  rw [ha] at htop
  have fz := cell_free_row h h0
  clear ha
  go_enter Tryz.func53, Tryz.ntmps53
  go_wp2_with (go_at_call 113; refine htop.mono ?_; rintro e w1 ⟨rfl, nq, rfl⟩)
  go_ret
  exact ⟨rfl, Only.setCell (Only.drewN (Only.refl _ _) nq) (.inl (.inr rfl)) _, (Stk_setLast h h0 (by decide)).blocks fun k _ => rfl⟩

set_option maxHeartbeats 400000 in
theorem stkClear_any {B : Nat} {w : World} {s : Nat} {sl : Value} {most : Int} {fs : List Fr} (h : SK B w s sl most fs) :
    Calls Tryz.prog 107 #[.pointer (some ⟨s, 0, .none⟩)] w fun e w' => e = .returned (.tuple #[]) ∧ Only (foot s sl) w w' ∧ SK B w' s (.slice none 0 0) most [] := by
  have d0 := h.cell0
  have fz := cell_free_of h.head
  go_enter Tryz.func107, Tryz.ntmps107
  go_wp2
  go_end0
  refine ⟨rfl, Only.setCell (Only.refl _ _) (.inl (.inl rfl)) _, h.lies, ?_, World.ownsRow_nil _ _ _ _, by simp [Value.ownBlock], fun f hf => by cases hf⟩
  rw [heap_setCell_same w s 0 _ _ _ h.head]; rfl
end Go.Proofs.YtcgakbgmdabnkaaGreat
/- The walks of the stack of frames: Get and Push. -/
namespace Go.Proofs.YtcgakbgmdabnkaaGreat

open Go.RowKit

theorem infoFrame : (Tryz.prog.info? 55).map (fun i => (i.zero, i.size, i.bytes)) = some (some zeroFrame, 10, 80) := by kernel_rfl
theorem own_later {T E : TypeId} {B : Nat} {w Y : World} {s : Nat} {sl : Value} {most : Int} {fs : List Fr} (h : Stk T E B w s sl most fs) (hb : Below w.heap.size w Y) : Y.ownsRow B E 10 sl fs.length (flat fs) :=
  ownsRow_of_blocks h.owns fun k hk => hb.block k (h.rowLt k hk).2
/-- The registers of a new frame. -/
def padded (zs : List Int) : List Int := zs ++ List.replicate (8 - zs.length) 0
theorem padded_length {zs : List Int} (h : zs.length ≤ 8) : (padded zs).length = 8 := by simp [padded]; omega
theorem padded_splice (code : Int) {zs : List Int} (h : zs.length ≤ 8) : splice [.int .i64 code, .int .i64 0, .int .i64 0, .int .i64 0, .int .i64 0, .int .i64 0, .int .i64 0, .int .i64 0, .int .i64 0, .int .i64 0] 2 (zs.map (.int .i64)) = (Fr.mk code 0 (padded zs)).cells := by
  match zs, h with
  | [], _ => rfl
  | [_], _ => rfl
  | [_, _], _ => rfl
  | [_, _, _], _ => rfl
  | [_, _, _, _], _ => rfl
  | [_, _, _, _, _], _ => rfl
  | [_, _, _, _, _, _], _ => rfl
  | [_, _, _, _, _, _, _], _ => rfl
  | [_, _, _, _, _, _, _, _], _ => rfl
theorem list8 {l : List Int} (h : l.length = 8) : ∃ a b c d e f g i, l = [a, b, c, d, e, f, g, i] := by
  match l, h with
  | [a, b, c, d, e, f, g, i], _ => exact ⟨a, b, c, d, e, f, g, i, rfl⟩

theorem okRegs_snoc {fs : List Fr} {f : Fr} (h : okRegs fs) (hf : f.regs.length = 8) : okRegs (fs ++ [f]) := by
  intro x hx
  rcases List.mem_append.1 hx with hx | hx
  · exact h x hx
  · rw [List.mem_singleton.1 hx]; exact hf
theorem push_done {T E : TypeId} {B s g cap' K H : Nat} {w w2 Y w3 : World} {sl : Value} {most : Int} {fs : List Fr} {f : Fr} (h2 : Stk T E B w2 s sl most fs)
    (hown : w3.ownsRow B E 10 (.slice (some ⟨g, 0, .none⟩) (fs.length + 1) cap') (fs.length + 1) (flat fs ++ f.cells)) (hg : Y.grownBy w3 sl.ownBlock) (hY : Below w2.heap.size w2 Y)
    (ho : Only (foot s sl) w w2) (hat : sl.ownBlock = some g ∨ g = K) (hK : sl.ownBlock = some g ∨ g = K → sl.ownBlock = some g ∨ (H ≤ g ∧ w2.heap.size ≤ g)) (hr : okRegs (fs ++ [f])) :
    Only (foot s sl) w (w3.setCell ⟨s, 0, .none⟩ (.slice (some ⟨g, 0, .none⟩) (fs.length + 1) cap')) ∧ ∃ sl', (∀ k, sl'.ownBlock = some k → sl.ownBlock = some k ∨ H ≤ k) ∧
      Stk T E B (w3.setCell ⟨s, 0, .none⟩ (.slice (some ⟨g, 0, .none⟩) (fs.length + 1) cap')) s sl' most (fs ++ [f]) := by
  have hs := h2.lt
  have ne1 : some s ≠ sl.ownBlock := fun e => h2.apart e.symm
  have hh : w3.heap[s]? = some (.cells #[sl, .int .i64 most] T (0, 0)) := (hg.block s (by have := hY.size; omega) ne1).trans ((hY.block s hs).trans h2.head)
  have hgs : g ≠ s := by
    rcases hK hat with h | ⟨_, h⟩
    · intro e; exact h2.apart (by rw [h, e])
    · omega
  refine ⟨Only.setCell (Only.grown (ho.trans (Only.of_below (F := fun _ => False) hY) fun _ _ h => h.elim) hg fun k hk => .inl (.inr hk)) (.inl (.inl rfl)) _, .slice (some ⟨g, 0, .none⟩) (fs.length + 1) cap', ?_, h2.lies, ?_, ?_, ?_, hr⟩
  · intro k hk
    obtain rfl : g = k := by injection hk
    rcases hK hat with h | h
    · exact .inl h
    · exact .inr h.1
  · rw [heap_setCell_same w3 s 0 _ T _ hh]; rfl
  · have e : (fs ++ [f]).length = fs.length + 1 := by simp
    rw [e, flat_append]
    exact ownsRow_of_blocks hown fun k hk => by
      obtain rfl : g = k := by injection hk
      exact heap_setCell_other _ _ _ _ hgs
  · intro e
    exact hgs (by injection e)

set_option maxHeartbeats 1000000 in
theorem stkPush_any {B : Nat} {w : World} {s : Nat} {sl : Value} {most code : Int} {fs : List Fr} {ao : Option Addr} {zs : List Int} {cap : Nat} (h : SK B w s sl most fs) (h1 : fs.length < most) (hz : zs.length ≤ 8) (hB : B ≤ w.heap.size) (hm : most ≤ 100000)
    (hc : ∀ a, ao = some a → ∀ j v, (zs.map (Value.int .i64))[j]? = some v → w.cell? (a.add j) = some v) (hn : ao = none → zs = []) :
    Calls Tryz.prog 47 #[.pointer (some ⟨s, 0, .none⟩), .int .i64 code, .slice ao zs.length cap] w fun e w' => e = .returned (.bool true) ∧ Only (foot s sl) w w' ∧
      ∃ sl', (∀ k, sl'.ownBlock = some k → sl.ownBlock = some k ∨ w.heap.size ≤ k) ∧ SK B w' s sl' most (fs ++ [⟨code, 0, padded zs⟩]) := by
  have c0 := h.cell0
  have c1 := h.cell1
  have hsl : ∃ a c, sl = .slice a fs.length c := by
    rcases h.form with ⟨rfl, rfl⟩ | ⟨g, cap, rfl, _⟩
    · exact ⟨_, _, rfl⟩
    · exact ⟨_, _, rfl⟩
  obtain ⟨a, c, rfl⟩ := hsl
  have h3 : decide (most ≤ (fs.length : Int)) = false := by simp; omega
  have h4 : decide ((8 : Int) < (zs.length : Int)) = false := by simp; omega
  go_enter Tryz.func47, Tryz.ntmps47
  go_wp2_with fail
  go_quiet (fail)
  have h' : SK B (w.drewN nq) s (.slice a fs.length c) most fs := h.blocks fun _ _ => rfl
  have hc' : ∀ a, ao = some a → ∀ j v, (zs.map (Value.int .i64))[j]? = some v → (w.drewN nq).cell? (a.add j) = some v := hc
  have ho : Only (foot s (.slice a fs.length c)) w (w.drewN nq) := Only.drewN (Only.refl _ _) nq
  have hsz : (w.drewN nq).heap.size = w.heap.size := rfl
  generalize w.drewN nq = W at *
  clear c0 c1 hc h
  have c0 := h'.cell0
  have hlt := h'.lt
  go_upto_region 4 with fail
  have hu := Tryz.underlying176
  have k1 : (W.alloc (.cells #[.int .i64 code, .int .i64 0, .int .i64 0, .int .i64 0, .int .i64 0, .int .i64 0, .int .i64 0, .int .i64 0, .int .i64 0, .int .i64 0] 55)).heap[w.heap.size]? = some (.cells #[.int .i64 code, .int .i64 0, .int .i64 0, .int .i64 0, .int .i64 0, .int .i64 0, .int .i64 0, .int .i64 0, .int .i64 0, .int .i64 0] 55 (0, 0)) := by rw [← hsz]; exact heap_alloc_new W _
  have k2 : (zs.map (Value.int .i64)).length = Nat.min zs.length 8 := by rw [List.length_map]; exact (Nat.min_eq_left hz).symm
  have k3 : 0 < (zs.map (Value.int .i64)).length → (some (⟨w.heap.size, 2, .none⟩ : Addr)) = some ⟨w.heap.size, 2, .none⟩ ∧ ∃ ad, ao = some ad ∧ ∀ j v, (zs.map (Value.int .i64))[j]? = some v → (W.alloc (.cells #[.int .i64 code, .int .i64 0, .int .i64 0, .int .i64 0, .int .i64 0, .int .i64 0, .int .i64 0, .int .i64 0, .int .i64 0, .int .i64 0] 55)).cell? (ad.add j) = some v := by
    intro hp
    refine ⟨rfl, ?_⟩
    cases ao with
    | none => rw [hn rfl] at hp; simp at hp
    | some ad => exact ⟨ad, rfl, fun j v hv => (World.grownBy_alloc W _ none).cell (hc' ad rfl j v hv) (by simp)⟩
  have k4 : 2 + (zs.map (Value.int .i64)).length ≤ ([Value.int .i64 code, .int .i64 0, .int .i64 0, .int .i64 0, .int .i64 0, .int .i64 0, .int .i64 0, .int .i64 0, .int .i64 0, .int .i64 0] : List Value).length := by simp; omega
  have k5 : ∀ v ∈ zs.map (Value.int .i64), v.oneCell' = true := by
    intro v hv
    obtain ⟨x, _, rfl⟩ := List.mem_map.1 hv
    rfl
  have k6 : Below W.heap.size W (W.alloc (.cells #[.int .i64 code, .int .i64 0, .int .i64 0, .int .i64 0, .int .i64 0, .int .i64 0, .int .i64 0, .int .i64 0, .int .i64 0, .int .i64 0] 55)) := (Below.refl _ _).alloc (Nat.le_refl _) _
  go_wp2_with (refine wpList_copy_splice rfl (.tmp 30) (.tmp 31) 176 176 rfl 2 hu (by kernel_rfl) (some ⟨w.heap.size, 2, .none⟩) ao 8 8 zs.length cap rfl rfl w.heap.size 2 [.int .i64 code, .int .i64 0, .int .i64 0, .int .i64 0, .int .i64 0, .int .i64 0, .int .i64 0, .int .i64 0, .int .i64 0, .int .i64 0] 55 k1 (zs.map (.int .i64)) k2 k3 k4 k5 W.heap.size W k6 (Nat.le_of_eq hsz) ?_; intro w2 hH hb2)
  have hH' := hH.out
  rw [padded_splice code hz] at hH'
  obtain ⟨e0, e1, e2, e3, e4, e5, e6, e7, he⟩ := list8 (padded_length hz)
  rw [he] at hH'
  have hh := fun i => cell_of_row w2 w.heap.size i _ _ (0, 0) hH'
  simp only [Fr.cells, List.map_cons, List.map_nil] at hh hH'
  have h2 := h'.below hb2
  have ho2 := ho.trans (Only.of_below (F := fun _ => False) hb2) (fun _ _ h => h.elim)
  have hs1 : s ≠ w.heap.size := by omega
  have hsz2 : W.heap.size < w2.heap.size := (Array.getElem?_eq_some_iff.1 (hsz ▸ hH')).1
  clear k1 k2 k3 k4 k5 k6 hH hc' hn ho hu
  have hu2 := Tryz.underlying51
  obtain ⟨i0, hi, hz0, hz1, hz2⟩ := info_parts infoFrame
  have c2 := h2.cell0
  have fz2 := cell_free_of h2.head 0
  have hrow := h2.rowLt
  have hrl := h'.rowLt
  have ne1 : some s ≠ (Value.slice a fs.length c).ownBlock := fun e => h2.apart e.symm
  have ne2 : some w.heap.size ≠ (Value.slice a fs.length c).ownBlock := fun e => by have := (hrl _ e.symm).2; omega
  have hB2 : B ≤ w2.heap.size := by omega
  have hs2 : s < w2.heap.size := h2.lt
  have hone : ∀ u ∈ ([.int .i64 code, .int .i64 0, .int .i64 e0, .int .i64 e1, .int .i64 e2, .int .i64 e3, .int .i64 e4, .int .i64 e5, .int .i64 e6, .int .i64 e7] : List Value), u.oneCell' = true := by intro u hu; simp at hu; rcases hu with rfl | rfl | rfl | rfl | rfl | rfl | rfl | rfl | rfl | rfl <;> rfl
  have hb1 : (fs.length + 1) * 80 ≤ 140737488355328 := by omega
  have hb3 : fs.length + 1 ≤ maxLen := by simp only [maxLen]; omega
  generalize hH : w.heap.size = H at *
  have g0 : ∀ i, w2.cell? ⟨H, i, .none⟩ = (#[.int .i64 code, .int .i64 0, .int .i64 e0, .int .i64 e1, .int .i64 e2, .int .i64 e3, .int .i64 e4, .int .i64 e5, .int .i64 e6, .int .i64 e7] : Array Value)[i]? := hh
  clear hh h' h3 h4
  have hS : ∀ w', Below w2.heap.size w2 w' → w'.cell? ⟨s, 0, .none⟩ = some (.slice a fs.length c) ∧ w'.frozen? ⟨s, 0, .none⟩ = false ∧ w'.cell? ⟨H, 0, .none⟩ = some (.int .i64 code) ∧ w'.cell? ⟨H, 1, .none⟩ = some (.int .i64 0) ∧ w'.cell? ⟨H, 2, .none⟩ = some (.int .i64 e0) ∧ w'.cell? ⟨H, 3, .none⟩ = some (.int .i64 e1) ∧ w'.cell? ⟨H, 4, .none⟩ = some (.int .i64 e2) ∧ w'.cell? ⟨H, 5, .none⟩ = some (.int .i64 e3) ∧ w'.cell? ⟨H, 6, .none⟩ = some (.int .i64 e4) ∧ w'.cell? ⟨H, 7, .none⟩ = some (.int .i64 e5) ∧ w'.cell? ⟨H, 8, .none⟩ = some (.int .i64 e6) ∧ w'.cell? ⟨H, 9, .none⟩ = some (.int .i64 e7) := by
    intro w' hb
    have kk := keepF hb
    refine ⟨kk _ _ _ c2, (hb.frozen (p := ⟨s, 0, .none⟩) hs2).trans fz2, ?_⟩
    (repeat' apply And.intro) <;> exact kk _ _ _ (g0 _)
  have hS3 : ∀ w1 w', Below w2.heap.size w2 w1 → w1.grownBy w' (Value.slice a fs.length c).ownBlock → w'.cell? ⟨s, 0, .none⟩ = some (.slice a fs.length c) ∧ w'.frozen? ⟨s, 0, .none⟩ = false ∧ w'.cell? ⟨H, 0, .none⟩ = some (.int .i64 code) ∧ w'.cell? ⟨H, 1, .none⟩ = some (.int .i64 0) ∧ w'.cell? ⟨H, 2, .none⟩ = some (.int .i64 e0) ∧ w'.cell? ⟨H, 3, .none⟩ = some (.int .i64 e1) ∧ w'.cell? ⟨H, 4, .none⟩ = some (.int .i64 e2) ∧ w'.cell? ⟨H, 5, .none⟩ = some (.int .i64 e3) ∧ w'.cell? ⟨H, 6, .none⟩ = some (.int .i64 e4) ∧ w'.cell? ⟨H, 7, .none⟩ = some (.int .i64 e5) ∧ w'.cell? ⟨H, 8, .none⟩ = some (.int .i64 e6) ∧ w'.cell? ⟨H, 9, .none⟩ = some (.int .i64 e7) := by
    intro w1 w' hb hg
    have h := hS w1 hb
    have hs3 : s < w1.heap.size := by have := hb.size; omega
    refine ⟨hg.cell h.1 ne1, (World.frozen?_of_block (hg.block s hs3 ne1)).trans h.2.1, ?_⟩
    obtain ⟨_, _, h0, h1, h2, h3, h4, h5, h6, h7, h8, h9⟩ := h
    exact ⟨hg.cell h0 ne2, hg.cell h1 ne2, hg.cell h2 ne2, hg.cell h3 ne2, hg.cell h4 ne2, hg.cell h5 ne2, hg.cell h6 ne2, hg.cell h7 ne2, hg.cell h8 ne2, hg.cell h9 ne2⟩
  go_cut [] (fun wx => Only (foot s (.slice a fs.length c)) w wx ∧ ∃ sl', (∀ k, sl'.ownBlock = some k → (Value.slice a fs.length c).ownBlock = some k ∨ H ≤ k) ∧ SK B wx s sl' most (fs ++ [⟨code, 0, padded zs⟩]))
  case first =>
    go_region_law
      (first
        | (refine step_append_lies _ rfl (.tmp 37) (.tmp 39) 51 rfl B 55 i0 zeroFrame 10 80 hu2 hi hz0 hz1 hz2 rfl (by decide) (.slice a fs.length c) fs.length (flat fs) rfl (own_later h2 (by go_grown)) ⟨w2.heap.size, 0, .none⟩ 1 1 [.int .i64 code, .int .i64 0, .int .i64 e0, .int .i64 e1, .int .i64 e2, .int .i64 e3, .int .i64 e4, .int .i64 e5, .int .i64 e6, .int .i64 e7] rfl rfl (World.news_of_block (by exact heap_alloc_new w2 _)) hone (by decide) hb3 hb1 (Nat.le_trans hB2 (Below.size (B := 0) (by go_grown))) _ rfl ?_; intro g cap' w3 hown3 hgrow3 hat3 hlt3; have q1 := (hS3 _ _ (by go_grown) hgrow3).1; have q2 := (hS3 _ _ (by go_grown) hgrow3).2.1))
    all_goals go_wp2_with fail
    all_goals
      go_meet
      case rel =>
        refine push_done h2 (he ▸ hown3) hgrow3 ?_ ho2 hat3 (fun k => by rcases k with k | k; exact .inl k; right; rw [k]; simp; omega) (okRegs_snoc h2.regs (padded_length hz))
        go_grown
  case rest =>
    obtain ⟨hw, sl', hsl', hst⟩ := hcut
    go_wp2_with fail
    go_ret
    exact ⟨rfl, hw, sl', by rw [hH]; exact hsl', hst⟩
end Go.Proofs.YtcgakbgmdabnkaaGreat
