/- Texts bound together: RenS RenT RenU RenV QLas2. -/
import Derived.Test.YtcgakbgmdabnkaaGreatBn25

import Derived.Test.YtcgakbgmdabnkaaGreatBn22

set_option linter.all false
/- The Renewer in memory: who owns what; settle and the parts' steps under it. -/
namespace Go.Proofs.YtcgakbgmdabnkaaGreat

open Go.RowKit

/-- A Renewer whose blocks are in F. -/
def RrO (F : Nat → Prop) (w : World) (q : Nat) (s : Sh) (t : Rr) : Prop :=
  (∀ k, F k → k < w.heap.size) ∧ F q ∧ ∃ q1 q2 q3 q4 F1 F2, (∀ k, F1 k → F k ∧ k ≠ q) ∧ (∀ k, F2 k → F k ∧ k ≠ q ∧ ¬ F1 k) ∧
    RowAt w q (rrCells s t (ptrV t.res q1) (ptrV t.free q2) (ptrV t.undo q3) (ptrV t.com q4)) 240 ∧
    (∀ x, t.res = some x → RsO F1 w q1 s x) ∧ (∀ x, t.free = some x → FeO F2 w q2 s x) ∧
    (∀ x, t.undo = some x → (F q3 ∧ q3 ≠ q ∧ ¬ F1 q3 ∧ ¬ F2 q3) ∧ RowAt w q3 (unCells s x) 269) ∧
    (∀ x, t.com = some x → (F q4 ∧ q4 ≠ q ∧ ¬ F1 q4 ∧ ¬ F2 q4) ∧ RowAt w q4 (cmCells s x) 271)
theorem grow_lt {F : Nat → Prop} {w w' : World} (h : ∀ k, F k → k < w.heap.size) (hs : w.heap.size ≤ w'.heap.size) : ∀ k, grow F w w' k → k < w'.heap.size := fun k e => e.elim (fun e => Nat.lt_of_lt_of_le (h k e) hs) (fun e => e.2)
/-- settle, where there are a Reserver and a Freer. -/
theorem RrO.settled {F : Nat → Prop} {w : World} {q : Nat} {s : Sh} {t : Rr} (h : RrO F w q s t) {r : Rs} {f : Fe} (hres : t.res = some r) (hfree : t.free = some f) :
    Calls Tryz.prog 152 #[.pointer (some ⟨q, 0, .none⟩)] w fun e w' => e = .returned (.tuple #[]) ∧ Only (fun k => k = q) w w' ∧ RrO (grow F w w') w' q s (t.settle s) := by
  obtain ⟨hF, h1, q1, q2, q3, q4, F1, F2, hF1, hF2, hrow, hr, hf, hu, hc⟩ := h
  have hff := hf f hfree
  obtain ⟨f1, q7, f2, f3⟩ := hff
  have hrow' : RowAt w q (rrCells s t (.pointer (some ⟨q1, 0, .none⟩)) (.pointer (some ⟨q2, 0, .none⟩)) (ptrV t.undo q3) (ptrV t.com q4)) 240 := by rw [hres, hfree] at hrow; exact hrow
  refine (rrsettle_any q q1 q2 q3 q4 s t r f (ptrV f.put q7) w hres hfree hrow' (hr r hres) f2.row (fun x hx => (hu x hx).2) (fun x hx => (hc x hx).2)).mono fun e w' hS => ?_
  obtain ⟨q5, q6, g1, g2, g3⟩ := hS.at'
  have hsz := hS.only.size
  have er : (t.settle s).res = t.res ∧ (t.settle s).free = t.free := by
    rcases rr_settles s t r f hres hfree with ⟨_, e⟩ | ⟨_, _, e⟩ | ⟨_, _, _, e⟩ | ⟨_, _, _, _, e⟩ | ⟨b, _, _, _, _, _, e⟩ | ⟨b, _, _, _, _, _, _, _, _, e⟩ | ⟨b, _, _, _, _, _, _, _, _, e⟩ <;> rw [e] <;> exact ⟨rfl, rfl⟩
  refine ⟨hS.ret, hS.only, grow_lt hF hsz, .inl h1, q1, q2, q5, q6, F1, F2, fun k hk => ⟨.inl (hF1 k hk).1, (hF1 k hk).2⟩, fun k hk => ⟨.inl (hF2 k hk).1, (hF2 k hk).2⟩, ?_, ?_, ?_, ?_, ?_⟩
  · rw [er.1, er.2, hres, hfree]; exact g1
  · intro x hx
    rw [er.1] at hx
    exact (hr x hx).only hS.only (fun k hk => (hF1 k hk).2)
  · intro x hx
    rw [er.2] at hx
    exact (hf x hx).only hS.only (fun k hk => (hF2 k hk).2.1)
  · intro x hx
    rcases g2 with ⟨g2, rfl⟩ | ⟨g2, g4, y, g5, g6⟩
    · rw [g2] at hx
      obtain ⟨⟨a1, a2, a3, a4⟩, a5⟩ := hu x hx
      exact ⟨⟨.inl a1, a2, a3, a4⟩, a5.only hS.only a2⟩
    · rw [g5] at hx
      injection hx with hx
      subst hx
      exact ⟨⟨.inr ⟨g4, g6.lt⟩, fun e => by have := hF q h1; omega, fun e => by have := hF _ (hF1 _ e).1; omega, fun e => by have := hF _ (hF2 _ e).1; omega⟩, g6⟩
  · intro x hx
    rcases g3 with ⟨g3, rfl⟩ | ⟨g3, g4, y, g5, g6⟩
    · rw [g3] at hx
      obtain ⟨⟨a1, a2, a3, a4⟩, a5⟩ := hc x hx
      exact ⟨⟨.inl a1, a2, a3, a4⟩, a5.only hS.only a2⟩
    · rw [g5] at hx
      injection hx with hx
      subst hx
      exact ⟨⟨.inr ⟨g4, g6.lt⟩, fun e => by have := hF q h1; omega, fun e => by have := hF _ (hF1 _ e).1; omega, fun e => by have := hF _ (hF2 _ e).1; omega⟩, g6⟩
/-- What a Renewer keeps. -/
structure rrOk (s : Sh) (t : Rr) : Prop where
  cl : t.done = false → ∃ r f, t.res = some r ∧ t.free = some f ∧ ((∀ x, r.seeker = some x → skOk s x) ∧ (∀ x, r.runner = some x → rnOk s x)) ∧ feOk s f ∧ (∀ u, t.undo = some u → unOk s u) ∧ (∀ u, t.com = some u → cmOk s u) ∧ (t.undo = none ∨ t.com = none) ∧ (r.done = true → f.done = true → t.undo ≠ none ∨ t.com ≠ none)
/-- The Reserver's step in a Renewer. -/
theorem RrO.resStep {F : Nat → Prop} {q p b : Nat} {s : Sh} {t : Rr} {m : Mem} {w : World} (h : RrO F w q s t) {r : Rs} (hres : t.res = some r) (hw : WdsAt w p b m) (hp : ¬ F p) (hb : ¬ F b) (hf : Fits s m) (ho : (∀ x, r.seeker = some x → skOk s x) ∧ (∀ x, r.runner = some x → rnOk s x)) (hs : m.st < 1000000000) :
    ∃ q1, w.cell? ⟨q, 4, .none⟩ = some (.pointer (some ⟨q1, 0, .none⟩)) ∧ Calls Tryz.prog 215 #[.pointer (some ⟨q1, 0, .none⟩), .pointer (some ⟨p, 0, .none⟩)] w fun e w' => OStep F p b w w' e (rsStep s r m).2 ∧ RrO (grow F w w') w' q s { t with res := some (rsStep s r m).1 } := by
  obtain ⟨hF, h1, q1, q2, q3, q4, F1, F2, hF1, hF2, hrow, hr, hfr, hu, hc⟩ := h
  have c4 : w.cell? ⟨q, 4, .none⟩ = some (ptrV t.res q1) := hrow.cell 4
  rw [hres] at c4
  refine ⟨q1, c4, (rsstep_any (hr r hres) hw (fun e => hp (hF1 p e).1) (fun e => hb (hF1 b e).1) hf ho hs).mono fun e w' hS => ?_⟩
  obtain ⟨hO, hR⟩ := hS
  have hsz := hO.only.size
  have hq : ¬ (F1 q ∨ q = p ∨ q = b) := by
    rintro (e | e | e)
    · exact (hF1 q e).2 rfl
    · exact hp (e ▸ h1)
    · exact hb (e ▸ h1)
  have hout : ∀ k, F k → ¬ F1 k → ¬ (F1 k ∨ k = p ∨ k = b) := fun k hk hk1 e => by
    rcases e with e | e | e
    · exact hk1 e
    · exact hp (e ▸ hk)
    · exact hb (e ▸ hk)
  have hng : ∀ k, F k → ¬ F1 k → ¬ grow F1 w w' k := fun k hk hk1 e => by
    rcases e with e | e
    · exact hk1 e
    · have := hF k hk; omega
  refine ⟨⟨hO.ret, hO.wds, hO.only.weak fun k hk => hk.imp (fun e => (hF1 k e).1) id⟩, grow_lt hF hsz, .inl h1, q1, q2, q3, q4, grow F1 w w', F2, fun k hk => ?_, fun k hk => ⟨.inl (hF2 k hk).1, (hF2 k hk).2.1, hng k (hF2 k hk).1 (hF2 k hk).2.2⟩, ?_, ?_, ?_, ?_, ?_⟩
  · rcases hk with hk | hk
    · exact ⟨.inl (hF1 k hk).1, (hF1 k hk).2⟩
    · exact ⟨.inr hk, fun e => by have := hF q h1; omega⟩
  · have := hrow.only hO.only hq
    rw [hres] at this
    exact this
  · intro x hx
    injection hx with hx
    subst hx
    exact hR
  · intro x hx
    exact (hfr x hx).only hO.only (fun k hk => hout k (hF2 k hk).1 (hF2 k hk).2.2)
  · intro x hx
    obtain ⟨⟨a1, a2, a3, a4⟩, a5⟩ := hu x hx
    exact ⟨⟨.inl a1, a2, hng _ a1 a3, a4⟩, a5.only hO.only (hout _ a1 a3)⟩
  · intro x hx
    obtain ⟨⟨a1, a2, a3, a4⟩, a5⟩ := hc x hx
    exact ⟨⟨.inl a1, a2, hng _ a1 a3, a4⟩, a5.only hO.only (hout _ a1 a3)⟩
end Go.Proofs.YtcgakbgmdabnkaaGreat
/- The Renewer in memory: the steps of its Freer, Undoer, Committer. -/
namespace Go.Proofs.YtcgakbgmdabnkaaGreat

open Go.RowKit

theorem RrO.weak {F G : Nat → Prop} {w : World} {q : Nat} {s : Sh} {t : Rr} (h : RrO F w q s t) (hG : ∀ k, F k → G k) (hb : ∀ k, G k → k < w.heap.size) : RrO G w q s t := by
  obtain ⟨hF, h1, q1, q2, q3, q4, F1, F2, hF1, hF2, hrow, hr, hfr, hu, hc⟩ := h
  exact ⟨hb, hG q h1, q1, q2, q3, q4, F1, F2, fun k hk => ⟨hG k (hF1 k hk).1, (hF1 k hk).2⟩, fun k hk => ⟨hG k (hF2 k hk).1, (hF2 k hk).2⟩, hrow, hr, hfr, fun x hx => ⟨⟨hG _ (hu x hx).1.1, (hu x hx).1.2⟩, (hu x hx).2⟩, fun x hx => ⟨⟨hG _ (hc x hx).1.1, (hc x hx).1.2⟩, (hc x hx).2⟩⟩
/-- The Freer's step in a Renewer. -/
theorem RrO.freeStep {F : Nat → Prop} {q p b : Nat} {s : Sh} {t : Rr} {m : Mem} {w : World} (h : RrO F w q s t) {f : Fe} (hfree : t.free = some f) (hw : WdsAt w p b m) (hp : ¬ F p) (hb : ¬ F b) (hf : Fits s m) (ho : feOk s f) (hs : m.st < 1000000000) :
    ∃ q2, w.cell? ⟨q, 5, .none⟩ = some (.pointer (some ⟨q2, 0, .none⟩)) ∧ Calls Tryz.prog 241 #[.pointer (some ⟨q2, 0, .none⟩), .pointer (some ⟨p, 0, .none⟩)] w fun e w' => OStep F p b w w' e (feStep s f m).2 ∧ RrO (grow F w w') w' q s { t with free := some (feStep s f m).1 } := by
  obtain ⟨hF, h1, q1, q2, q3, q4, F1, F2, hF1, hF2, hrow, hr, hfr, hu, hc⟩ := h
  have c5 : w.cell? ⟨q, 5, .none⟩ = some (ptrV t.free q2) := hrow.cell 5
  rw [hfree] at c5
  refine ⟨q2, c5, (feo_step (hfr f hfree) hw (fun e => hp (hF2 p e).1) (fun e => hb (hF2 b e).1) hf ho hs).mono fun e w' hS => ?_⟩
  obtain ⟨hO, hR⟩ := hS
  have hsz := hO.only.size
  have hq : ¬ (F2 q ∨ q = p ∨ q = b) := by
    rintro (e | e | e)
    · exact (hF2 q e).2.1 rfl
    · exact hp (e ▸ h1)
    · exact hb (e ▸ h1)
  have hout : ∀ k, F k → ¬ F2 k → ¬ (F2 k ∨ k = p ∨ k = b) := fun k hk hk1 e => by
    rcases e with e | e | e
    · exact hk1 e
    · exact hp (e ▸ hk)
    · exact hb (e ▸ hk)
  have hng : ∀ k, F k → ¬ F2 k → ¬ grow F2 w w' k := fun k hk hk1 e => by
    rcases e with e | e
    · exact hk1 e
    · have := hF k hk; omega
  refine ⟨⟨hO.ret, hO.wds, hO.only.weak fun k hk => hk.imp (fun e => (hF2 k e).1) id⟩, grow_lt hF hsz, .inl h1, q1, q2, q3, q4, F1, grow F2 w w', fun k hk => ⟨.inl (hF1 k hk).1, (hF1 k hk).2⟩, fun k hk => ?_, ?_, ?_, ?_, ?_, ?_⟩
  · rcases hk with hk | hk
    · exact ⟨.inl (hF2 k hk).1, (hF2 k hk).2⟩
    · exact ⟨.inr hk, fun e => by have := hF q h1; omega, fun e => by have := hF k (hF1 k e).1; omega⟩
  · have := hrow.only hO.only hq
    rw [hfree] at this
    exact this
  · intro x hx
    exact (hr x hx).only hO.only (fun k hk => hout k (hF1 k hk).1 (fun e => (hF2 k e).2.2 hk))
  · intro x hx
    injection hx with hx
    subst hx
    exact hR
  · intro x hx
    obtain ⟨⟨a1, a2, a3, a4⟩, a5⟩ := hu x hx
    exact ⟨⟨.inl a1, a2, a3, hng _ a1 a4⟩, a5.only hO.only (hout _ a1 a4)⟩
  · intro x hx
    obtain ⟨⟨a1, a2, a3, a4⟩, a5⟩ := hc x hx
    exact ⟨⟨.inl a1, a2, a3, hng _ a1 a4⟩, a5.only hO.only (hout _ a1 a4)⟩
/-- The Undoer's step in a Renewer. -/
theorem RrO.undoStep {F : Nat → Prop} {q p b : Nat} {s : Sh} {t : Rr} {m : Mem} {w : World} (h : RrO F w q s t) {u : Un} (hun : t.undo = some u) (hno : t.com = none) (hw : WdsAt w p b m) (hp : ¬ F p) (hb : ¬ F b) (hf : Fits s m) (ho : unOk s u) (hs : m.st < 1000000000) :
    ∃ q3, w.cell? ⟨q, 6, .none⟩ = some (.pointer (some ⟨q3, 0, .none⟩)) ∧ Calls Tryz.prog 257 #[.pointer (some ⟨q3, 0, .none⟩), .pointer (some ⟨p, 0, .none⟩)] w fun e w' => OStep F p b w w' e (unStep s u m).2 ∧ RrO (grow F w w') w' q s { t with undo := some (unStep s u m).1 } := by
  obtain ⟨hF, h1, q1, q2, q3, q4, F1, F2, hF1, hF2, hrow, hr, hfr, hu, hc⟩ := h
  have c5 : w.cell? ⟨q, 6, .none⟩ = some (ptrV t.undo q3) := hrow.cell 6
  rw [hun] at c5
  obtain ⟨⟨b1, b2, b3, b4⟩, b5⟩ := hu u hun
  refine ⟨q3, c5, (unstep_any q3 p b s u m w b5 hw (fun e => hp (e ▸ b1)) (fun e => hb (e ▸ b1)) hf ho hs).mono fun e w' hS => ?_⟩
  have hsz := hS.only.size
  have hq : ¬ (q = q3 ∨ q = p ∨ q = b) := by
    rintro (e | e | e)
    · exact b2 e.symm
    · exact hp (e ▸ h1)
    · exact hb (e ▸ h1)
  have hout : ∀ k, F k → k ≠ q3 → ¬ (k = q3 ∨ k = p ∨ k = b) := fun k hk hk1 e => by
    rcases e with e | e | e
    · exact hk1 e
    · exact hp (e ▸ hk)
    · exact hb (e ▸ hk)
  refine ⟨⟨hS.ret, hS.wds, hS.only.weak fun k hk => hk.imp (fun e => by rw [e]; exact b1) id⟩, grow_lt hF hsz, .inl h1, q1, q2, q3, q4, F1, F2, fun k hk => ⟨.inl (hF1 k hk).1, (hF1 k hk).2⟩, fun k hk => ⟨.inl (hF2 k hk).1, (hF2 k hk).2⟩, ?_, ?_, ?_, ?_, ?_⟩
  · have := hrow.only hS.only hq
    rw [hun] at this
    exact this
  · intro x hx
    exact (hr x hx).only hS.only (fun k hk => hout k (hF1 k hk).1 (fun e => b3 (e ▸ hk)))
  · intro x hx
    exact (hfr x hx).only hS.only (fun k hk => hout k (hF2 k hk).1 (fun e => b4 (e ▸ hk)))
  · intro x hx
    injection hx with hx
    subst hx
    exact ⟨⟨.inl b1, b2, b3, b4⟩, hS.row⟩
  · intro x hx
    exact absurd hx (by rw [hno]; exact fun e => by cases e)
/-- The Committer's step in a Renewer. -/
theorem RrO.comStep {F : Nat → Prop} {q p b : Nat} {s : Sh} {t : Rr} {m : Mem} {w : World} (h : RrO F w q s t) {u : Cm} (hun : t.com = some u) (hno : t.undo = none) (hw : WdsAt w p b m) (hp : ¬ F p) (hb : ¬ F b) (hf : Fits s m) (ho : cmOk s u) (hs : m.st < 1000000000) :
    ∃ q3, w.cell? ⟨q, 7, .none⟩ = some (.pointer (some ⟨q3, 0, .none⟩)) ∧ Calls Tryz.prog 216 #[.pointer (some ⟨q3, 0, .none⟩), .pointer (some ⟨p, 0, .none⟩)] w fun e w' => OStep F p b w w' e (cmStep s u m).2 ∧ RrO (grow F w w') w' q s { t with com := some (cmStep s u m).1 } := by
  obtain ⟨hF, h1, q1, q2, q3, q4, F1, F2, hF1, hF2, hrow, hr, hfr, hu, hc⟩ := h
  have c5 : w.cell? ⟨q, 7, .none⟩ = some (ptrV t.com q4) := hrow.cell 7
  rw [hun] at c5
  obtain ⟨⟨b1, b2, b3, b4⟩, b5⟩ := hc u hun
  refine ⟨q4, c5, (cmstep_any q4 p b s u m w b5 hw (fun e => hp (e ▸ b1)) (fun e => hb (e ▸ b1)) hf ho hs).mono fun e w' hS => ?_⟩
  have hsz := hS.only.size
  have hq : ¬ (q = q4 ∨ q = p ∨ q = b) := by
    rintro (e | e | e)
    · exact b2 e.symm
    · exact hp (e ▸ h1)
    · exact hb (e ▸ h1)
  have hout : ∀ k, F k → k ≠ q4 → ¬ (k = q4 ∨ k = p ∨ k = b) := fun k hk hk1 e => by
    rcases e with e | e | e
    · exact hk1 e
    · exact hp (e ▸ hk)
    · exact hb (e ▸ hk)
  refine ⟨⟨hS.ret, hS.wds, hS.only.weak fun k hk => hk.imp (fun e => by rw [e]; exact b1) id⟩, grow_lt hF hsz, .inl h1, q1, q2, q3, q4, F1, F2, fun k hk => ⟨.inl (hF1 k hk).1, (hF1 k hk).2⟩, fun k hk => ⟨.inl (hF2 k hk).1, (hF2 k hk).2⟩, ?_, ?_, ?_, ?_, ?_⟩
  · have := hrow.only hS.only hq
    rw [hun] at this
    exact this
  · intro x hx
    exact (hr x hx).only hS.only (fun k hk => hout k (hF1 k hk).1 (fun e => b3 (e ▸ hk)))
  · intro x hx
    exact (hfr x hx).only hS.only (fun k hk => hout k (hF2 k hk).1 (fun e => b4 (e ▸ hk)))
  · intro x hx
    exact absurd hx (by rw [hno]; exact fun e => by cases e)
  · intro x hx
    injection hx with hx
    subst hx
    exact ⟨⟨.inl b1, b2, b3, b4⟩, hS.row⟩
end Go.Proofs.YtcgakbgmdabnkaaGreat
/- The Renewer in memory: Step. -/
namespace Go.Proofs.YtcgakbgmdabnkaaGreat

open Go.RowKit

attribute [local go_sem ↓] Go.wp_at_zero Go.wp_at_succ

theorem rr_join {F : Nat → Prop} {q p b : Nat} {s : Sh} {t2 : Rr} {m : Mem} {w w1 w2 : World} {e1 : Ending} (hF : ∀ k, F k → k < w.heap.size) (hq : F q) (hp : ¬ F p) (hb : ¬ F b) (hO : OStep F p b w w1 e1 m) (ho : Only (fun k => k = q) w1 w2) (hR : RrO (grow (grow F w w1) w1 w2) w2 q s t2) :
    OStep F p b w w2 (.returned (.tuple #[])) m ∧ RrO (grow F w w2) w2 q s t2 := by
  have h1 := hO.only.size
  have h2 := ho.size
  refine ⟨⟨rfl, hO.wds.only ho (fun e => hp (e ▸ hq)) (fun e => hb (e ▸ hq)), hO.only.trans ho (fun k _ e => .inl (by rw [e]; exact hq))⟩, hR.weak (fun k hk => ?_) (grow_lt hF (Nat.le_trans h1 h2))⟩
  rcases hk with (hk | hk) | hk
  · exact .inl hk
  · exact .inr ⟨hk.1, Nat.lt_of_lt_of_le hk.2 h2⟩
  · exact .inr ⟨Nat.le_trans h1 hk.1, hk.2⟩
theorem RrO.resDone {F : Nat → Prop} {q q1 : Nat} {s : Sh} {t : Rr} {w : World} (h : RrO F w q s t) {r : Rs} (hres : t.res = some r) (c : w.cell? ⟨q, 4, .none⟩ = some (.pointer (some ⟨q1, 0, .none⟩))) :
    Calls Tryz.prog 166 #[.pointer (some ⟨q1, 0, .none⟩)] w fun e w' => e = .returned (.bool r.done) ∧ w' = w := by
  obtain ⟨hF, h1, q2, _, _, _, F1, F2, hF1, hF2, hrow, hr, _⟩ := h
  have c4 : w.cell? ⟨q, 4, .none⟩ = some (ptrV t.res q2) := hrow.cell 4
  rw [hres] at c4
  have e : q1 = q2 := by have := c.symm.trans c4; simpa [ptrV] using this
  subst e
  exact rsdone_any (hr r hres)
theorem RrO.freeDone {F : Nat → Prop} {q q1 : Nat} {s : Sh} {t : Rr} {w : World} (h : RrO F w q s t) {f : Fe} (hfree : t.free = some f) (c : w.cell? ⟨q, 5, .none⟩ = some (.pointer (some ⟨q1, 0, .none⟩))) :
    Calls Tryz.prog 167 #[.pointer (some ⟨q1, 0, .none⟩)] w fun e w' => e = .returned (.bool f.done) ∧ w' = w := by
  obtain ⟨hF, h1, _, q2, _, _, F1, F2, hF1, hF2, hrow, _, hf, _⟩ := h
  have c4 : w.cell? ⟨q, 5, .none⟩ = some (ptrV t.free q2) := hrow.cell 5
  rw [hfree] at c4
  have e : q1 = q2 := by have := c.symm.trans c4; simpa [ptrV] using this
  subst e
  obtain ⟨_, q3, h3, _⟩ := hf f hfree
  exact fedone_any q1 _ f.done w h3.row rfl
theorem RrO.cells {F : Nat → Prop} {q : Nat} {s : Sh} {t : Rr} {w : World} (h : RrO F w q s t) : ∃ q1 q2 q3 q4, w.cell? ⟨q, 4, .none⟩ = some (ptrV t.res q1) ∧ w.cell? ⟨q, 5, .none⟩ = some (ptrV t.free q2) ∧ w.cell? ⟨q, 6, .none⟩ = some (ptrV t.undo q3) ∧ w.cell? ⟨q, 7, .none⟩ = some (ptrV t.com q4) ∧ w.cell? ⟨q, 9, .none⟩ = some (.bool t.done) := by
  obtain ⟨hF, h1, q1, q2, q3, q4, F1, F2, hF1, hF2, hrow, _⟩ := h
  exact ⟨q1, q2, q3, q4, hrow.cell 4, hrow.cell 5, hrow.cell 6, hrow.cell 7, hrow.cell 9⟩
set_option maxHeartbeats 2000000 in
theorem rrstep_any {F : Nat → Prop} {q p b : Nat} {s : Sh} {t : Rr} {m : Mem} {w : World} (h : RrO F w q s t) (hw : WdsAt w p b m) (hp : ¬ F p) (hb : ¬ F b) (hf : Fits s m) (ho : rrOk s t) (hs : m.st < 1000000000) :
    Calls Tryz.prog 256 #[.pointer (some ⟨q, 0, .none⟩), .pointer (some ⟨p, 0, .none⟩)] w fun e w' => OStep F p b w w' e (rrStep s t m).2 ∧ RrO (grow F w w') w' q s (rrStep s t m).1 := by
  obtain ⟨y1, y2, q5, q6, z4, z5, c6, c7, c9⟩ := h.cells
  clear z4 z5 y1 y2
  rcases Bool.eq_false_or_eq_true t.done with hd | hd
  · have hr : rrStep s t m = (t, m) := by unfold rrStep; rw [if_pos hd]
    rw [hr]
    rw [hd] at c9
    have hfin := Lib.hid (h.weak (G := grow F w w) (fun k hk => .inl hk) (grow_lt h.1 (Nat.le_refl _)))
    clear h hr hd ho hf c6 c7
    go_enter Tryz.func256, Tryz.ntmps256
    go_wp2_with fail
    go_returns
    exact ⟨⟨rfl, hw, Only.refl _ _⟩, hfin.out⟩
  obtain ⟨r, f, hres, hfree, hro, hfo, huo, hco, hno, hsome⟩ := ho.cl hd
  rw [hd] at c9
  have hF := h.1
  have hq := h.2.1
  rcases Bool.eq_false_or_eq_true r.done with hrd | hrd
  case inr =>
    have hr : rrStep s t m = (Rr.settle s { t with res := some (rsStep s r m).1 }, (rsStep s r m).2) := by unfold rrStep; simp [hd, hres, hfree, hrd]
    rw [hr]
    obtain ⟨q1, c4, hst⟩ := h.resStep hres hw hp hb hf hro hs
    have hdn := h.resDone hres c4
    rw [hrd] at hdn
    have hset := Lib.hid (fun (Y : World) (G : Nat → Prop) (hR : RrO G Y q s { t with res := some (rsStep s r m).1 }) => hR.settled rfl hfree)
    have hfin := Lib.hid (fun (Y Z : World) (e : Ending) (hO : OStep F p b w Y e (rsStep s r m).2) (hZ : Only (fun k => k = q) Y Z) (hR : RrO (grow (grow F w Y) Y Z) Z q s (Rr.settle s { t with res := some (rsStep s r m).1 })) => rr_join hF hq hp hb hO hZ hR)
    replace hst := Lib.hid hst
    replace hdn := Lib.hid hdn
    clear h hr hd ho hf c6 c7 hres hfree hro hfo huo hco hno hsome hrd hw hF hq
    go_enter Tryz.func256, Tryz.ntmps256
    go_wp2_with (first
      | (go_at_call 166; (with_reducible refine hdn.out.mono ?_); rintro r w2 ⟨rfl, hw2⟩; obtain rfl := hw2.symm)
      | (go_at_call 215; (with_reducible refine hst.out.mono ?_); rintro r w3 ⟨hO, hR⟩; obtain rfl := hO.ret)
      | (go_at_call 152; (with_reducible refine (hset.out _ _ hR).mono ?_); rintro r w4 ⟨rfl, ho4, hR4⟩)
      | fail)
    go_returns
    exact hfin.out _ _ _ hO ho4 hR4
  rcases Bool.eq_false_or_eq_true f.done with hfd | hfd
  case inr =>
    have hr : rrStep s t m = (Rr.settle s { t with free := some (feStep s f m).1 }, (feStep s f m).2) := by unfold rrStep; simp [hd, hres, hfree, hrd, hfd]
    rw [hr]
    obtain ⟨q2, c5, hst⟩ := h.freeStep hfree hw hp hb hf hfo hs
    have hdn2 := h.freeDone hfree c5
    rw [hfd] at hdn2
    obtain ⟨q1, y2, y3, y4, c4, z5⟩ := h.cells
    clear z5 y2 y3 y4
    rw [hres] at c4
    replace c4 : w.cell? ⟨q, 4, .none⟩ = some (.pointer (some ⟨q1, 0, .none⟩)) := c4
    have hdn := h.resDone hres c4
    rw [hrd] at hdn
    have hset := Lib.hid (fun (Y : World) (G : Nat → Prop) (hR : RrO G Y q s { t with free := some (feStep s f m).1 }) => hR.settled hres rfl)
    have hfin := Lib.hid (fun (Y Z : World) (e : Ending) (hO : OStep F p b w Y e (feStep s f m).2) (hZ : Only (fun k => k = q) Y Z) (hR : RrO (grow (grow F w Y) Y Z) Z q s (Rr.settle s { t with free := some (feStep s f m).1 })) => rr_join hF hq hp hb hO hZ hR)
    replace hst := Lib.hid hst
    replace hdn := Lib.hid hdn
    replace hdn2 := Lib.hid hdn2
    clear h hr hd ho hf c6 c7 hres hfree hro hfo huo hco hno hsome hrd hw hF hq hfd
    go_enter Tryz.func256, Tryz.ntmps256
    go_wp2_with (first
      | (go_at_call 166; (with_reducible refine hdn.out.mono ?_); rintro r w2 ⟨rfl, hw2⟩; obtain rfl := hw2.symm)
      | (go_at_call 167; (with_reducible refine hdn2.out.mono ?_); rintro r w5 ⟨rfl, hw5⟩; obtain rfl := hw5.symm)
      | (go_at_call 241; (with_reducible refine hst.out.mono ?_); rintro r w3 ⟨hO, hR⟩; obtain rfl := hO.ret)
      | (go_at_call 152; (with_reducible refine (hset.out _ _ hR).mono ?_); rintro r w4 ⟨rfl, ho4, hR4⟩)
      | fail)
    go_returns
    exact hfin.out _ _ _ hO ho4 hR4
  obtain ⟨q1, q2, y3, y4, c4, c5, z6⟩ := h.cells
  clear z6 y3 y4
  rw [hres] at c4
  rw [hfree] at c5
  replace c4 : w.cell? ⟨q, 4, .none⟩ = some (.pointer (some ⟨q1, 0, .none⟩)) := c4
  replace c5 : w.cell? ⟨q, 5, .none⟩ = some (.pointer (some ⟨q2, 0, .none⟩)) := c5
  have hdn := h.resDone hres c4
  have hdn2 := h.freeDone hfree c5
  rw [hrd] at hdn
  rw [hfd] at hdn2
  replace hdn := Lib.hid hdn
  replace hdn2 := Lib.hid hdn2
  rcases hun : t.undo with _ | u
  · obtain ⟨u, hcm⟩ : ∃ u, t.com = some u := by
      rcases hsome hrd hfd with e | e
      · exact absurd hun e
      · rcases hc : t.com with _ | u
        · exact absurd hc e
        · exact ⟨u, rfl⟩
    have hr : rrStep s t m = (Rr.settle s { t with com := some (cmStep s u m).1 }, (cmStep s u m).2) := by unfold rrStep; simp [hd, hres, hfree, hrd, hfd, hun, hcm]
    rw [hr]
    obtain ⟨q3, cx, hst⟩ := h.comStep hcm hun hw hp hb hf (hco u hcm) hs
    have hset := Lib.hid (fun (Y : World) (G : Nat → Prop) (hR : RrO G Y q s { t with com := some (cmStep s u m).1 }) => hR.settled hres hfree)
    have hfin := Lib.hid (fun (Y Z : World) (e : Ending) (hO : OStep F p b w Y e (cmStep s u m).2) (hZ : Only (fun k => k = q) Y Z) (hR : RrO (grow (grow F w Y) Y Z) Z q s (Rr.settle s { t with com := some (cmStep s u m).1 })) => rr_join hF hq hp hb hO hZ hR)
    replace hst := Lib.hid hst
    rw [hun] at c6
    replace c6 : w.cell? ⟨q, 6, .none⟩ = some (.pointer none) := c6
    clear h hr hd ho hf c7 hres hfree hro hfo huo hco hno hsome hrd hw hF hq hfd hun hcm
    go_enter Tryz.func256, Tryz.ntmps256
    go_wp2_with (first
      | (go_at_call 166; (with_reducible refine hdn.out.mono ?_); rintro r w2 ⟨rfl, hw2⟩; obtain rfl := hw2.symm)
      | (go_at_call 167; (with_reducible refine hdn2.out.mono ?_); rintro r w5 ⟨rfl, hw5⟩; obtain rfl := hw5.symm)
      | (go_at_call 216; (with_reducible refine hst.out.mono ?_); rintro r w3 ⟨hO, hR⟩; obtain rfl := hO.ret)
      | (go_at_call 152; (with_reducible refine (hset.out _ _ hR).mono ?_); rintro r w4 ⟨rfl, ho4, hR4⟩)
      | fail)
    go_returns
    exact hfin.out _ _ _ hO ho4 hR4
  · have hcm : t.com = none := by
      rcases hno with e | e
      · rw [hun] at e; cases e
      · exact e
    have hr : rrStep s t m = (Rr.settle s { t with undo := some (unStep s u m).1 }, (unStep s u m).2) := by unfold rrStep; simp [hd, hres, hfree, hrd, hfd, hun, hcm]
    rw [hr]
    obtain ⟨q3, cx, hst⟩ := h.undoStep hun hcm hw hp hb hf (huo u hun) hs
    have hset := Lib.hid (fun (Y : World) (G : Nat → Prop) (hR : RrO G Y q s { t with undo := some (unStep s u m).1 }) => hR.settled hres hfree)
    have hfin := Lib.hid (fun (Y Z : World) (e : Ending) (hO : OStep F p b w Y e (unStep s u m).2) (hZ : Only (fun k => k = q) Y Z) (hR : RrO (grow (grow F w Y) Y Z) Z q s (Rr.settle s { t with undo := some (unStep s u m).1 })) => rr_join hF hq hp hb hO hZ hR)
    replace hst := Lib.hid hst
    rw [hun] at c6
    clear c6
    clear h hr hd ho hf c7 hres hfree hro hfo huo hco hno hsome hrd hw hF hq hfd hun hcm
    go_enter Tryz.func256, Tryz.ntmps256
    go_wp2_with (first
      | (go_at_call 166; (with_reducible refine hdn.out.mono ?_); rintro r w2 ⟨rfl, hw2⟩; obtain rfl := hw2.symm)
      | (go_at_call 167; (with_reducible refine hdn2.out.mono ?_); rintro r w5 ⟨rfl, hw5⟩; obtain rfl := hw5.symm)
      | (go_at_call 257; (with_reducible refine hst.out.mono ?_); rintro r w3 ⟨hO, hR⟩; obtain rfl := hO.ret)
      | (go_at_call 152; (with_reducible refine (hset.out _ _ hR).mono ?_); rintro r w4 ⟨rfl, ho4, hR4⟩)
      | fail)
    go_returns
    exact hfin.out _ _ _ hO ho4 hR4
end Go.Proofs.YtcgakbgmdabnkaaGreat
/- What a Renewer keeps is kept. Plain. -/
namespace Go.Proofs.YtcgakbgmdabnkaaGreat

theorem rsNew_ok (s : Sh) (c n f : Int) : (∀ x, (rsNew s c n f).seeker = some x → skOk s x) ∧ (∀ x, (rsNew s c n f).runner = some x → rnOk s x) := by
  unfold rsNew
  split
  · exact ⟨fun x hx => (by injection hx with hx; subst hx; exact skNew_ok _ _ _ _), fun x hx => (by cases hx)⟩
  · split
    · exact ⟨fun x hx => (by cases hx), fun x hx => (by injection hx with hx; subst hx; exact rnNew_ok _ _ _)⟩
    · exact ⟨fun x hx => (by cases hx), fun x hx => (by cases hx)⟩
theorem rrSettle_ok {s : Sh} {t : Rr} {r : Rs} {f : Fe} (hres : t.res = some r) (hfree : t.free = some f) (hro : (∀ x, r.seeker = some x → skOk s x) ∧ (∀ x, r.runner = some x → rnOk s x)) (hfo : feOk s f) (huo : ∀ u, t.undo = some u → unOk s u) (hco : ∀ u, t.com = some u → cmOk s u) (hno : t.undo = none ∨ t.com = none) : rrOk s (t.settle s) := by
  rcases rr_settles s t r f hres hfree with ⟨_, e⟩ | ⟨_, _, e⟩ | ⟨_, _, h3, e⟩ | ⟨_, _, _, _, e⟩ | ⟨b, _, _, _, _, hw, e⟩ | ⟨b, _, _, _, _, e1, e2, _, _, e⟩ | ⟨b, _, _, _, _, e1, e2, _, _, e⟩
  all_goals rw [e]
  · exact ⟨fun h => by cases h⟩
  · exact ⟨fun h => by cases h⟩
  · exact ⟨fun _ => ⟨r, f, hres, hfree, hro, hfo, huo, hco, hno, fun h => by rw [h3] at h; cases h⟩⟩
  · exact ⟨fun h => by cases h⟩
  · refine ⟨fun _ => ⟨r, f, hres, hfree, hro, hfo, huo, hco, hno, fun _ hf => ?_⟩⟩
    rcases hw with h | ⟨_, h⟩ | ⟨_, _, h⟩
    · exact .inl h
    · exact .inr h
    · rw [h] at hf; cases hf
  · exact ⟨fun _ => ⟨r, f, hres, hfree, hro, hfo, huo, fun u hu => by injection hu with hu; subst hu; exact cmNew_ok _ _ _, .inl e1, fun _ _ => .inr (fun h => by cases h)⟩⟩
  · exact ⟨fun _ => ⟨r, f, hres, hfree, hro, hfo, fun u hu => by injection hu with hu; subst hu; exact unNew_ok _ _ _, hco, .inr e2, fun _ _ => .inl (fun h => by cases h)⟩⟩
theorem rrNew_ok (s : Sh) (c a n first : Int) : rrOk s (rrNew s c a n first) := by
  unfold rrNew
  split
  · exact rrSettle_ok rfl rfl (rsNew_ok _ _ _ _) (feNew_ok _ _ _) (fun u hu => by cases hu) (fun u hu => by cases hu) (.inl rfl)
  · exact ⟨fun h => by cases h⟩
end Go.Proofs.YtcgakbgmdabnkaaGreat
/- A drawn region with one loud call, whose last two operations wait for all that lie ahead of them. -/
namespace Go.Proofs.YtcgakbgmdabnkaaGreat

open Go.RowKit

theorem wp_region_loud_last2 {P : Program} {Q : Exit → Act → World → Prop} {p q : Oper} {id : Nat} {a : Act} {W : World} {x : VarOp} {ld : Nat} {v : Value} {K0 K1 : World → Prop} {l l' : List Oper} {ts : List Nat} (n : Nat) (hm : P.follows .mixedOrders = true) (hd : l.drop n = [p, q]) (hlp : lastB (l.take n) p = true) (hlq : lastB (l.take n ++ [p]) q = true)
    (hl : nopMF x ld v 0 (l.take n) = l') (hB : Region.lexB .any l'.toArray = true) (hf : formM (l.take n).toArray x ld = true) (hsel : Region.noSelect (l.take n).toArray = true)
    (hn : x.al ≠ x.st ∧ x.al ≠ ld ∧ x.st ≠ ld ∧ x.src ≠ x.d) (hin : ld < (l.take n).toArray.size ∧ (x.al < (l.take n).toArray.size ↔ x.st < (l.take n).toArray.size)) (hso : x.so ≠ x.al ∧ x.so ≠ x.st) (hsl : x.al < (l.take n).toArray.size → x.so ≠ ld) (hw : waitsB (l.take n).toArray x ld ts = true) (hts : x.d ∉ ts) (hfit : x.d < a.tmps.size)
    (hc : KShut W K0 ∧ KShut W K1) (h0 : K0 W.drew)
    (hall : ∃ aF, (∀ B, K0 B ∨ K1 B → W.heap.size ≤ B.heap.size → wpQuiet P l'.toArray (fun w' => ∃ e : Ext B, w' = e.w) (fun a' => a' = aF) l' a) ∧ (x.al < (l.take n).toArray.size → ∀ Q0, VarStep P (l.take n) Q0 aF x) ∧ (∀ Q0, LoudStep P (l.take n) Q0 aF W ld v ts K0 K1) ∧
      ∀ a w M, FilledL W x K1 (l.take n).toArray.size aF a w M → wpList P l.toArray Q [p, q] a w) : (Code.region id l.toArray true).wp P Q a W := by
  have hll : l = (l.take n ++ [p]) ++ [q] := by
    have h := (List.take_append_drop n l).symm
    rw [hd] at h
    simpa using h
  obtain ⟨aF, h1, h2, h3, h4⟩ := hall
  generalize hl0 : l.take n = l0 at *
  subst hll
  have hgp : p.guard = none := by
    simp only [lastB, Bool.and_eq_true] at hlq
    have := List.all_eq_true.1 hlq.1.1.1 p (by simp)
    simp only [Bool.and_eq_true, Option.isNone_iff_eq_none] at this
    exact this.1
  have hwp : ∀ k, Region.wanted p k = true := fun k => by unfold Region.wanted; rw [hgp]
  have h5 := loud_any (P := P) (Q := fun e a w => match e with | .normal => wpList P ((l0 ++ [p]) ++ [q]).toArray Q [p, q] a w | e => Q e a w) hl hB hf hsel hn hin hso hsl hw hts hfit hc h0 ⟨aF, h1, fun hx => h2 hx _, h3 _, h4⟩
  have h6 := wpAny_last (P := P) (Q := fun e a w => match e with | .normal => wpList P ((l0 ++ [p]) ++ [q]).toArray Q [q] a w | e => Q e a w) hlp (fun e a w hne hq => by cases e <;> first | exact absurd rfl hne | exact hq) (fun a w hq => ?_) l0.toArray.size (Array.replicate l0.toArray.size false) a W.drew (by simp) (fun k o _ hk => by rw [getD_replicate_false] at hk; cases hk) h5
  · have hr : (Array.replicate l0.toArray.size false).push false = Array.replicate (l0 ++ [p]).toArray.size false := by simp [Array.replicate_succ]
    rw [hr] at h6
    have hz1 : l0.toArray.size + 1 = (l0 ++ [p]).toArray.size := by simp
    rw [hz1] at h6
    have h7 := wpAny_last (P := P) (Q := Q) hlq (fun e a w hne hq => by cases e <;> first | exact absurd rfl hne | exact hq) (fun a w hq => by unfold wpOp; rw [last_getn]; exact hq) (l0 ++ [p]).toArray.size (Array.replicate (l0 ++ [p]).toArray.size false) a W.drew (by simp) (fun k o _ hk => by rw [getD_replicate_false] at hk; cases hk) h6
    refine wp_region_any hm ?_
    have hz : ((l0 ++ [p]) ++ [q]).toArray.size = (l0 ++ [p]).toArray.size + 1 := by simp
    rw [hz]
    have hr2 : (Array.replicate (l0 ++ [p]).toArray.size false).push false = Array.replicate ((l0 ++ [p]).toArray.size + 1) false := by rw [Array.replicate_succ]
    rw [← hr2]
    exact h7
  · unfold wpOp
    rw [last_getn]
    simp only [hwp, if_true]
    have hq' : wpList P ((l0 ++ [p]) ++ [q]).toArray Q [p, q] a w := hq
    unfold wpList at hq'
    simp only [hwp, if_true] at hq'
    rcases hq' with h | ⟨h2, b, u, h3⟩
    · exact .inl (upon_congr h (fun e a w hne hq => by cases e <;> first | exact absurd rfl hne | exact hq))
    · exact .inr ⟨h2, b, u, h3⟩
end Go.Proofs.YtcgakbgmdabnkaaGreat
