/- A judge: plain. -/
import Derived.Test.YtclidckjnoafcaaMdlL

import Derived.Test.YtclidckjnoafcaaPlnP

namespace Go.Proofs.Ytclidckjnoafcaa

/-- An event: kind, client, its operation (kind, place, words), place, words, error. -/
structure Ev where
  k : Int
  c : Int
  ok : Int
  oa : Int
  on : Int
  at' : Int
  n : Int
  er : Int
  deriving DecidableEq
/-- What is known of a client. -/
structure Pt where
  was : Bool
  lives : Bool
  asks : Bool
  k : Int
  a : Int
  n : Int
  took : Bool
  gave : Bool
  at' : Int
  ab : Bool
  deriving DecidableEq
def Pt.zero : Pt := ⟨false, false, false, 0, 0, 0, false, false, 0, false⟩
def beginsC (p : Pt) (e : Ev) : Int :=
  if e.k = 0 then (if p.was = true then 1 else 0)
  else if e.k = 1 then (if p.lives = false then 1 else if p.asks = true ∧ p.took = true then 5 else 0)
  else if p.lives = false ∨ p.asks = true ∨ e.ok < 1 ∨ 4 < e.ok then 1 else 0
def beginsP (p : Pt) (e : Ev) : Pt :=
  if beginsC p e ≠ 0 then p
  else if e.k = 0 then { p with was := true, lives := true }
  else if e.k = 1 then { p with lives := false, asks := false }
  else ⟨true, true, true, e.ok, e.oa, e.on, false, false, 0, false⟩
def mayT (p : Pt) : Bool := decide (p.k = 1) || (decide (p.k = 3) && p.gave)
def tookC (W : Int) (l : List Bk) (p : Pt) (e : Ev) : Int :=
  if mayT p = false ∨ p.took = true ∨ lenB p.n = false ∨ lenV p.n ≠ e.n then 5 else if takeOk W l e.at' e.n = true then 0 else 2
def mayG (p : Pt) : Bool := decide (p.k = 2) || decide (p.k = 3)
def gaveC (l : List Bk) (p : Pt) (e : Ev) : Int :=
  if mayG p = false ∨ p.gave = true ∨ e.at' ≠ p.a then 5 else if foundB e.at' l = true then 0 else 3
def doneB (p : Pt) (at' : Int) : Bool := if p.k = 1 ∨ p.k = 3 then p.took && (at' == p.at') else if p.k = 2 then p.gave && (at' == 0) else at' == 0
def refusedB (p : Pt) : Bool := if p.k = 1 then !lenB p.n else if p.k = 2 then p.ab else if p.k = 3 then p.ab || !lenB p.n else true
def answersB (p : Pt) (e : Ev) : Bool :=
  if e.er = 0 then doneB p e.at' else if p.took = true ∨ p.gave = true ∨ e.at' ≠ 0 then false
  else if e.er = 1 then refusedB p else if e.er = 3 then p.k == 1 || p.k == 3 else if e.er = 4 ∨ e.er = 5 then p.k == 4 else false
/-- Why an event is not in order; the blocks and the clients behind it. -/
structure Wy where
  c : Int
  l : List Bk
  ps : List Pt
def whyJ (W : Int) (l : List Bk) (ps : List Pt) (e : Ev) : Wy :=
  if e.c < 0 ∨ (ps.length : Int) ≤ e.c ∨ e.k < 0 ∨ 5 < e.k then ⟨1, l, ps⟩
  else if e.k < 3 then ⟨beginsC (ps.getD e.c.toNat Pt.zero) e, l, ps.set e.c.toNat (beginsP (ps.getD e.c.toNat Pt.zero) e)⟩
  else if (ps.getD e.c.toNat Pt.zero).lives = false ∨ (ps.getD e.c.toNat Pt.zero).asks = false then ⟨1, l, ps⟩
  else if e.k = 3 then
    (if tookC W l (ps.getD e.c.toNat Pt.zero) e = 0 then ⟨0, putB l e.at' e.n, ps.set e.c.toNat { ps.getD e.c.toNat Pt.zero with took := true, at' := e.at' }⟩ else ⟨tookC W l (ps.getD e.c.toNat Pt.zero) e, l, ps⟩)
  else if e.k = 4 then
    (if gaveC l (ps.getD e.c.toNat Pt.zero) e = 0 then ⟨0, giveB l e.at', ps.set e.c.toNat { ps.getD e.c.toNat Pt.zero with gave := true }⟩ else ⟨gaveC l (ps.getD e.c.toNat Pt.zero) e, l, ps⟩)
  else if answersB (ps.getD e.c.toNat Pt.zero) e = true then ⟨0, l, ps.set e.c.toNat { ps.getD e.c.toNat Pt.zero with asks := false }⟩ else ⟨4, l, ps⟩
def abP (l : List Bk) (p : Pt) : Pt := if foundB p.a l = false ∧ p.asks = true then { p with ab := true } else p
/-- A judge: words, blocks, clients, how many events were in order, its ruling. -/
structure Jd where
  W : Int
  l : List Bk
  ps : List Pt
  m : Int
  at' : Int
  why : Int
def hearB (j : Jd) (e : Ev) : Bool := decide (j.why = 0) && decide ((whyJ j.W j.l j.ps e).c = 0)
def hearJ (j : Jd) (e : Ev) : Jd :=
  if j.why ≠ 0 then j
  else if (whyJ j.W j.l j.ps e).c ≠ 0 then { j with l := (whyJ j.W j.l j.ps e).l, ps := (whyJ j.W j.l j.ps e).ps, at' := j.m, why := (whyJ j.W j.l j.ps e).c }
  else { j with l := (whyJ j.W j.l j.ps e).l, ps := (whyJ j.W j.l j.ps e).ps.map (abP (whyJ j.W j.l j.ps e).l), m := j.m + 1 }
def newJ (p c m : Int) : Jd := if mayB p c m = true then ⟨p * 64, [], List.replicate c.toNat Pt.zero, 0, -1, 0⟩ else ⟨0, [], [], 0, -1, 0⟩
def runJ (j : Jd) (es : List Ev) : Jd := es.foldl hearJ j
theorem runJ_append (j : Jd) (a b : List Ev) : runJ j (a ++ b) = runJ (runJ j a) b := by simp [runJ]
theorem runJ_cons (j : Jd) (e : Ev) (b : List Ev) : runJ j (e :: b) = runJ (hearJ j e) b := rfl
theorem runJ_snoc (j : Jd) (e : Ev) (b : List Ev) : runJ j (b ++ [e]) = hearJ (runJ j b) e := by simp [runJ]
theorem hear_bad {j : Jd} (h : j.why ≠ 0) (e : Ev) : hearJ j e = j := by unfold hearJ; rw [if_pos h]
theorem run_bad {j : Jd} (h : j.why ≠ 0) (es : List Ev) : runJ j es = j := by
  induction es with
  | nil => rfl
  | cons e es ih => rw [runJ_cons, hear_bad h, ih]
theorem hearB_iff (j : Jd) (e : Ev) : hearB j e = true ↔ j.why = 0 ∧ (whyJ j.W j.l j.ps e).c = 0 := by simp [hearB]
theorem hear_ok {j : Jd} {e : Ev} (h : hearB j e = true) : hearJ j e = { j with l := (whyJ j.W j.l j.ps e).l, ps := (whyJ j.W j.l j.ps e).ps.map (abP (whyJ j.W j.l j.ps e).l), m := j.m + 1 } := by
  obtain ⟨h1, h2⟩ := (hearB_iff j e).1 h
  unfold hearJ
  rw [if_neg (by omega), if_neg (by omega)]
theorem hear_no {j : Jd} {e : Ev} (hj : j.why = 0) (h : hearB j e = false) : (hearJ j e).why ≠ 0 ∧ (hearJ j e).at' = j.m := by
  have h1 : (whyJ j.W j.l j.ps e).c ≠ 0 := fun e1 => by rw [(hearB_iff j e).2 ⟨hj, e1⟩] at h; cases h
  unfold hearJ
  rw [if_neg (by omega), if_pos h1]
  exact ⟨h1, rfl⟩
/-- In order so far, or not. -/
theorem run_state (j : Jd) (hw : j.why = 0) (es : List Ev) : ((runJ j es).why = 0 → (runJ j es).at' = j.at' ∧ (runJ j es).m = j.m + es.length) ∧ ((runJ j es).why ≠ 0 → j.m ≤ (runJ j es).at' ∧ (runJ j es).at' < j.m + es.length) := by
  induction es generalizing j with
  | nil => exact ⟨fun _ => ⟨rfl, by simp [runJ]⟩, fun h => absurd hw h⟩
  | cons e es ih =>
    rw [runJ_cons]
    rcases Bool.eq_false_or_eq_true (hearB j e) with hb | hb
    · have he := hear_ok hb
      have hw2 : (hearJ j e).why = 0 := by rw [he]; exact hw
      obtain ⟨i1, i2⟩ := ih (hearJ j e) hw2
      have e1 : (hearJ j e).at' = j.at' := by rw [he]
      have e2 : (hearJ j e).m = j.m + 1 := by rw [he]
      rw [e1, e2] at i1
      rw [e2] at i2
      simp only [List.length_cons]
      exact ⟨fun h => ⟨(i1 h).1, by have := (i1 h).2; omega⟩, fun h => by have := i2 h; omega⟩
    · obtain ⟨h1, h2⟩ := hear_no hw hb
      rw [run_bad h1]
      simp only [List.length_cons]
      exact ⟨fun h => absurd h h1, fun _ => by omega⟩
/-- What is said of a history's beginning, and of the whole. -/
theorem first_law (p c m : Int) (l : List Ev) (n : Nat) (hn : n ≤ l.length) :
    ((runJ (newJ p c m) (l.take n)).why ≠ 0 → (runJ (newJ p c m) l).why = (runJ (newJ p c m) (l.take n)).why ∧ (runJ (newJ p c m) l).at' = (runJ (newJ p c m) (l.take n)).at' ∧ 0 ≤ (runJ (newJ p c m) l).at' ∧ (runJ (newJ p c m) l).at' < n) ∧
    ((runJ (newJ p c m) (l.take n)).why = 0 → (runJ (newJ p c m) (l.take n)).at' = -1 ∧ ((runJ (newJ p c m) l).why = 0 ∨ (n : Int) ≤ (runJ (newJ p c m) l).at')) := by
  have h0 : (newJ p c m).why = 0 ∧ (newJ p c m).at' = -1 ∧ (newJ p c m).m = 0 := by unfold newJ; split <;> simp
  have hs : runJ (newJ p c m) l = runJ (runJ (newJ p c m) (l.take n)) (l.drop n) := by rw [← runJ_append, List.take_append_drop]
  have hl : (l.take n).length = n := by rw [List.length_take]; omega
  obtain ⟨i1, i2⟩ := run_state (newJ p c m) h0.1 (l.take n)
  rw [hl, h0.2.1, h0.2.2] at i1
  rw [hl, h0.2.2] at i2
  refine ⟨fun h => ?_, fun h => ?_⟩
  · rw [hs, run_bad h]
    have := i2 h
    exact ⟨rfl, rfl, by omega, by omega⟩
  · obtain ⟨e1, e2⟩ := i1 h
    refine ⟨e1, ?_⟩
    obtain ⟨k1, k2⟩ := run_state _ h (l.drop n)
    rw [← hs] at k1 k2
    by_cases hw : (runJ (newJ p c m) l).why = 0
    · exact .inl hw
    · exact .inr (by have := k2 hw; omega)
end Go.Proofs.Ytclidckjnoafcaa
