/- The walk of package script's Print. -/
import Derived.Test.YtkeiehgojclecaaDoorScrD

import Derived.Test.YtkeiehgojclecaaDoorSchK

namespace Go.Proofs.YtkeiehgojclecaaDoor

open Go.RowKit

attribute [local go_sem ↓] Go.wp_at_zero Go.wp_at_succ

attribute [local go_sem] run_store_float

/-- The choices' lines, each with a byte 10 behind it. -/
def showsO : List Ch → Option (List UInt8)
  | [] => some []
  | c :: r => (showL c).bind fun s => (showsO r).map fun t => s ++ [10] ++ t
def headL (p c m : Int) : List UInt8 := wordsL [104, 101, 97, 112] [p, c, m] ++ [10]
theorem showsO_snoc (l : List Ch) (c : Ch) : showsO (l ++ [c]) = (showsO l).bind fun t => (showL c).map fun s => t ++ (s ++ [10]) := by
  induction l with
  | nil =>
    simp only [List.nil_append, showsO]
    cases showL c <;> simp
  | cons d r ih =>
    simp only [List.cons_append, showsO, ih]
    cases showL d with
    | none => rfl
    | some s =>
      simp only [Option.bind_some]
      cases showsO r with
      | none => rfl
      | some t =>
        simp only [Option.bind_some, Option.map_some]
        cases showL c <;> simp
theorem showsO_bad (l : List Ch) (i : Nat) (h : i < l.length) (hn : showL l[i] = none) : showsO l = none := by
  induction l generalizing i with
  | nil => simp at h
  | cons d r ih =>
    cases i with
    | zero => simp only [List.getElem_cons_zero] at hn; simp [showsO, hn]
    | succ i =>
      have := ih i (by simpa using h) (by simpa using hn)
      simp only [showsO, this]
      cases showL d <;> rfl
/-- What Print tells. -/
def printO (p c m : Int) (l : List Ch) : List UInt8 × Int := match showsO l with
  | some t => (headL p c m ++ t, 0)
  | none => ([], 1)
theorem IsB.lt {B b : Nat} {l : List UInt8} {w : World} (h : IsB B b l w) : b < w.heap.size := by
  rcases h with h | h <;> exact h.lt
theorem IsB.later {B b : Nat} {l : List UInt8} {w w' : World} (h : IsB B b l w) (hb : Below w.heap.size w w') : IsB B b l w' := by
  have key : ∀ p, Lib.BuilderAt 65 5 B b p (Lib.byteCells l) w → Lib.BuilderAt 65 5 B b p (Lib.byteCells l) w' := by
    rintro p ⟨h1, v, h2, h3, h4⟩
    exact ⟨h1, v, (hb.block b (Array.getElem?_eq_some_iff.1 h2).1).trans h2, ownsRow_of_blocks h3 fun k hk => hb.block k (h3.lt k hk).2, h4⟩
  rcases h with h | h
  · exact .inl (key _ h)
  · exact .inr (key _ h)
set_option maxRecDepth 100000 in
set_option maxHeartbeats 4000000 in
theorem print_any (p c m : Int) (hp : i64 p) (hc : i64 c) (hm : i64 m) (l : List Ch) (v : Value) (w : World) (hr : RdC w v l) (hf : ∀ c ∈ l, c.wf) (hlen : l.length < 4000)
    (hsm : ∀ i t, showsO (l.take i) = some t → (headL p c m ++ t).length ≤ 65536) (h : Laid w) :
    Calls Tryd.prog 12 #[.agg #[.int .i64 p, .int .i64 c, .int .i64 m], v] w fun e w' => e = .returned (.tuple #[.string (S (printO p c m l).1), .int .i64 (printO p c m l).2]) ∧ Below w.heap.size w w' := by
  obtain ⟨ao, cap, rfl, hcap, hcm, hrow⟩ := id hr
  have t2 := two_blocks w (.cells #[.int .i64 p, .int .i64 c, .int .i64 m] 26) (.cells #[.pointer none, .slice none 0 0] 65)
  go_enter Tryd.func12, Tryd.ntmps12
  go_upto_region 2 with fail
  obtain ⟨bx, bb, bs, hbW⟩ := t2
  generalize (w.alloc (.cells #[.int .i64 p, .int .i64 c, .int .i64 m] 26)).alloc (.cells #[.pointer none, .slice none 0 0] 65) = W at *
  have hL := h.below hbW
  obtain ⟨H, hH, hH'⟩ : ∃ H, Hid (H = w.heap.size) ∧ H = w.heap.size := ⟨_, Lib.hid rfl, rfl⟩
  rw [← hH'] at bx bb bs ⊢
  have hLw := Lib.hid (fun X (hX : Below w.heap.size w X) => h.below hX)
  clear hH' h
  have r0 : W.cell? ⟨H, 0, .none⟩ = some (.int .i64 p) := rowCells bx 0
  have r1 : W.cell? ⟨H, 1, .none⟩ = some (.int .i64 c) := rowCells bx 1
  have r2 : W.cell? ⟨H, 2, .none⟩ = some (.int .i64 m) := rowCells bx 2
  have l0 : H < W.heap.size := by omega
  have hB0 : IsB (H + 1) (H + 1) [] W := .inl ⟨Nat.le_refl _, .slice none 0 0, bb, World.ownsRow_nil _ _ _ _, by simp [Value.ownBlock]⟩
  have hwn := Lib.hid (words_new [104, 101, 97, 112] [p, c, m] (W.alloc (Obj.cells #[.int .i64 p, .int .i64 c, .int .i64 m] 3)) (by intro z hz; simp at hz; rcases hz with rfl | rfl | rfl <;> assumption) (by simp) (by simp) (hL.below ((Below.refl _ _).alloc (Nat.le_refl _) _)) 3 (H + 2) (by rw [← bs]; exact heap_alloc_new W _) rfl)
  have hl1 : (wordsL [104, 101, 97, 112] [p, c, m]).length ≤ 100 := by
    exact Nat.le_trans (wordsL_length [104, 101, 97, 112] [p, c, m] (by intro z hz; simp at hz; rcases hz with rfl | rfl | rfl <;> assumption)) (by simp)
  have q1 : ¬ 9223372036854775807 < (wordsL [104, 101, 97, 112] [p, c, m]).length + 1 := by omega
  have hst : Hid (S (wordsL [104, 101, 97, 112] [p, c, m]) ++ S [10] = S (headL p c m)) := Lib.hid (S_append _ _)
  have hl2 : (headL p c m).length ≤ 101 := by unfold headL; rw [List.length_append]; simp; omega
  clear bx bb hL
  have hws : Hid (∀ X, Below W.heap.size W X → H + 1 ≤ X.heap.size → Calls Tryd.prog 24 #[.pointer (some ⟨H + 1, 0, none⟩), .string (S (wordsL [104, 101, 97, 112] [p, c, m]) ++ S [10])] X fun e w' => (∃ v, e = .returned v) ∧ IsB (H + 1) (H + 1) (headL p c m) w' ∧ Below (H + 1) X w') := Lib.hid fun X hX hs => by
    rw [hst.out]
    exact writeString_any (H + 1) (H + 1) [] (headL p c m) X (hB0.later hX) (by simp; omega) hs
  go_upto_region 3 with (first
    | (go_at_call 25; refine hwn.out.mono ?_; rintro r w1 ⟨rfl, hb1⟩; have hb1' := belowTrans (w := W) ((Below.refl _ _).alloc (Nat.le_refl _) _) hb1; have hBl := hb1'.size)
    | (go_at_call 24; refine (hws.out _ hb1' (by omega)).mono ?_; rintro r w2 ⟨⟨v2, rfl⟩, hB2, hb2⟩))
  have hbZ : Below w.heap.size w w2 := hbW.trans ((hb1'.mono hbW.size).trans (hb2.mono (by have := hH.out; omega)))
  have hpr0 : printO p c m l = match showsO l with | some t => (headL p c m ++ t, 0) | none => ([], 1) := rfl
  obtain ⟨n, hnn, hn'⟩ : ∃ n, Hid (n = l.length) ∧ n = l.length := ⟨_, Lib.hid rfl, rfl⟩
  rw [← hn'] at hcap hlen hr
  replace hrow := Lib.hid hrow
  rw [← hn']
  clear hn' hwn hws hB0 hst q1 hl1 hb1 hb1' hb2 r0 r1 r2 l0 bs hbW
  replace hf := Lib.hid hf
  replace hsm := Lib.hid hsm
  have hbad := Lib.hid (showsO_bad l)
  replace hpr0 := Lib.hid hpr0
  obtain ⟨Z, rfl⟩ : ∃ V : World, V = w2 := ⟨_, rfl⟩
  go_wp2_with fail
  go_loopw [23] (fun v23 wr => ∃ (i : Nat) (t : List UInt8), i ≤ n ∧ v23 = .int .i64 i ∧ showsO (l.take i) = some t ∧ IsB (H + 1) (H + 1) (headL p c m ++ t) wr ∧ Below w.heap.size w wr) (fun v23 _ => n - (intOf v23).toNat)
  case atStart => exact ⟨0, [], Nat.zero_le _, rfl, rfl, by rw [List.append_nil]; exact hB2, hbZ⟩
  case round =>
    obtain ⟨i, t, hi, rfl, hti, hBi, hbr⟩ := hrel
    obtain ⟨Y, rfl⟩ : ∃ V : World, V = wr := ⟨_, rfl⟩
    have htl := hsm.out i t hti
    by_cases hlt : i < n
    · have hlt' : (i : Int) < (n : Int) := by omega
      have hi0' : (0 : Int) ≤ (i : Int) := by omega
      have wi1 : IntKind.i64.wrap ((i : Int) + 1) = (i : Int) + 1 := IntWalk.i64_in _ ⟨by omega, by omega⟩
      have hil : i < l.length := hnn.out ▸ hlt
      obtain ⟨b, off, rfl, hbw, z0, z1, z2, z3, z4, z5⟩ := hr.nth i hil
      have y0 := keepF hbr _ _ _ z0
      have y1 := keepF hbr _ _ _ z1
      have y2 := keepF hbr _ _ _ z2
      have y3 := keepF hbr _ _ _ z3
      have y4 := keepF hbr _ _ _ z4
      have y5 := keepF hbr _ _ _ z5
      have hsh := Lib.hid (fun X hX => show_any l[i] (hf.out _ (List.getElem_mem hil)) X (hLw.out X hX))
      have hb1 := hbad.out i hil
      have htk : showsO (l.take (i + 1)) = (showL l[i]).map fun s => t ++ (s ++ [10]) := by
        rw [List.take_succ_eq_append_getElem hil, showsO_snoc, hti]; rfl
      have hs1 := fun s (hs : showL l[i] = some s) => hsm.out (i + 1) (t ++ (s ++ [10])) (by rw [htk, hs]; rfl)
      have hfin : Hid (∀ s X, showL l[i] = some s → IsB (H + 1) (H + 1) (headL p c m ++ t ++ (s ++ [10])) X → Below w.heap.size w X → (∃ (k : Nat) (t : List UInt8), k ≤ n ∧ Value.int .i64 ((i : Int) + 1) = .int .i64 k ∧ showsO (l.take k) = some t ∧ IsB (H + 1) (H + 1) (headL p c m ++ t) X ∧ Below w.heap.size w X) ∧ n - (intOf (Value.int .i64 ((i : Int) + 1))).toNat < n - (intOf (Value.int .i64 (i : Int))).toNat) := Lib.hid fun s X h1 h2 h3 =>
        ⟨⟨i + 1, t ++ (s ++ [10]), by omega, by go_num, by rw [htk, h1]; rfl, by rw [← List.append_assoc]; exact h2, h3⟩, by simp [intOf]; omega⟩
      replace hb1 := Lib.hid hb1
      replace hs1 := Lib.hid hs1
      clear htk z0 z1 z2 z3 z4 z5 hbad hsm hti hr hrow hf hB2 hbZ
      generalize l[i] = ch at *
      obtain ⟨c1, c2, c3, c4, c5, c6⟩ := ch
      have hal := fun o => hbr.alloc hbr.size o
      unfold Ch.val at hsh
      cases hso : showL ⟨c1, c2, c3, c4, c5, c6⟩ with
      | none =>
        have hp0 := hpr0.out
        rw [hb1.out hso] at hp0
        replace hp0 := Lib.hid hp0
        rw [hso] at hsh
        clear hfin hs1 hb1 hpr0 hso
        go_wp2_with (go_at_call 26; refine (hsh.out _ (hal _)).mono ?_; rintro r w3 ⟨⟨s, rfl, _⟩, hb3⟩)
        go_ret2
        exact ⟨by rw [hp0.out]; rfl, (hal _).trans (hb3.mono (hal _).size)⟩
      | some s0 =>
        have hs2 := hs1.out s0 hso
        rw [hso] at hsh hfin
        clear hs1 hb1 hpr0 hso
        go_upto_region 7 with (go_at_call 26; refine (hsh.out _ (hal _)).mono ?_; rintro r w3 ⟨⟨s, rfl, hs⟩, hb3⟩; obtain rfl := hs s0 rfl; replace hb3 := Lib.hid hb3)
        have hbY : Below Y.heap.size Y w3 := belowTrans (w := Y) ((Below.refl _ _).alloc (Nat.le_refl _) _) hb3.out
        have hB3 := hBi.later hbY
        have hbw3 := hbr.trans (hbY.mono hbr.size)
        have hlt3 := hB3.lt
        have hlen3 := Lib.byteCells_length (headL p c m ++ t)
        have hLn := Lib.hid (Tryd.Builder_Len (H + 1) (H + 1) _ w3 hB3)
        rw [hlen3] at hLn
        have hsl : s.length ≤ 65536 := by simp only [List.length_append] at hs2; omega
        have hcat : Hid (S s ++ S [10] = S (s ++ [10])) := Lib.hid (S_append _ _)
        have hws : Hid (Calls Tryd.prog 24 #[.pointer (some ⟨H + 1, 0, none⟩), .string (S s ++ S [10])] w3 fun e w' => (∃ v, e = .returned v) ∧ IsB (H + 1) (H + 1) (headL p c m ++ t ++ (s ++ [10])) w' ∧ Below (H + 1) w3 w') := Lib.hid (by
          rw [hcat.out]
          exact writeString_any (H + 1) (H + 1) _ _ w3 hB3 (by simp only [List.length_append, List.length_singleton] at hs2 htl ⊢; omega) (by omega))
        have q1 : ¬ 9223372036854775807 < s.length + 1 := by omega
        have q2 : ((headL p c m ++ t).length : Int) ≤ 65536 := by omega
        have hHw : w.heap.size ≤ H + 1 := by have := hH.out; omega
        generalize hN : (headL p c m ++ t).length = N at *
        clear hsh hs2 htl hB3 hBi hcat hlen3 hs hN hbY hal hb3 y0 y1 y2 y3 y4 y5
        go_wp2_with (first
          | (go_at_call 27; refine hLn.out.mono ?_; rintro r w4 ⟨rfl, rfl⟩)
          | (go_at_call 24; refine hws.out.mono ?_; rintro r w5 ⟨⟨v5, rfl⟩, hB5, hb5⟩))
        exact hfin.out s _ rfl hB5 (hbw3.trans (hb5.mono hHw))
    · have hin : i = n := by omega
      subst hin
      have hfull : l.take i = l := List.take_of_length_le (Nat.le_of_eq hnn.out.symm)
      rw [hfull] at hti
      have hp0 := hpr0.out
      rw [hti] at hp0
      have hlt3 := hBi.lt
      have hlen3 := Lib.byteCells_length (headL p c m ++ t)
      have hLn := Lib.hid (Tryd.Builder_Len (H + 1) (H + 1) _ Y hBi)
      rw [hlen3] at hLn
      have hStr := Lib.hid (Tryd.Builder_String (H + 1) (H + 1) (headL p c m ++ t) Y hBi (by simp [headL]))
      have q2 : decide (((headL p c m ++ t).length : Int) > 65536) = false := by simp; simp only [List.length_append] at htl; omega
      have q3 : decide ((i : Int) ≥ 4000) = false := by simp; omega
      have hHw : w.heap.size ≤ H + 1 := by have := hH.out; omega
      replace hp0 := Lib.hid hp0
      generalize hN : (headL p c m ++ t).length = N at *
      clear htl hfull hti hpr0 hbad hsm hrow hf hB2 hbZ hlen3 hBi hN hr
      go_wp2_with (first
          | (go_at_call 27; refine hLn.out.mono ?_; rintro r w4 ⟨rfl, rfl⟩)
          | (go_at_call 28; refine hStr.out.mono ?_; rintro r w5 ⟨rfl, hb5⟩))
      go_ret2
      exact ⟨by rw [hp0.out]; rfl, hbr.trans (hb5.mono hHw)⟩
end Go.Proofs.YtkeiehgojclecaaDoor
