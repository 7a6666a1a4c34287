/- The walk of the reference's Print. -/
import Derived.Test.YtkeiehgojclecaaDoorRfF

import Derived.Test.YtkeiehgojclecaaDoorScrE

namespace Go.Proofs.YtkeiehgojclecaaDoor

open Go.RowKit Fl

attribute [local go_sem ↓] Go.wp_at_zero Go.wp_at_succ

set_option maxRecDepth 100000 in
set_option maxHeartbeats 1000000 in
theorem rprint_any (p c m : Int) (hp : i64 p) (hc : i64 c) (hm : i64 m) (l : List Ch) (v : Value) (w : World) (hr : RdC w v l) (hf : ∀ c ∈ l, c.wf) (hlen : l.length < 4000)
    (hsm : ∀ i t, showsO (l.take i) = some t → (headL p c m ++ t).length ≤ 65536) :
    Calls Tryd.prog 10 #[.agg #[.int .i64 p, .int .i64 c, .int .i64 m], v] w fun e w' => e = .returned (.tuple #[.string (S (printO p c m l).1), .int .i64 (printO p c m l).2]) ∧ Below w.heap.size w w' := by
  obtain ⟨ao, cap, rfl, hcap, hcm, hrow⟩ := id hr
  have hb0 := (Below.refl w.heap.size w).alloc (Nat.le_refl _) (.cells #[.int .i64 p, .int .i64 c, .int .i64 m] 26)
  have bx := heap_alloc_new w (.cells #[.int .i64 p, .int .i64 c, .int .i64 m] 26)
  go_enter Tryd.func10, Tryd.ntmps10
  go_upto_region 1 with fail
  generalize w.alloc (.cells #[.int .i64 p, .int .i64 c, .int .i64 m] 26) = W at *
  obtain ⟨H, hH, hH'⟩ : ∃ H, Hid (H = w.heap.size) ∧ H = w.heap.size := ⟨_, Lib.hid rfl, rfl⟩
  rw [← hH'] at bx ⊢
  clear hH'
  have r0 : W.cell? ⟨H, 0, .none⟩ = some (.int .i64 p) := rowCells bx 0
  have r1 : W.cell? ⟨H, 1, .none⟩ = some (.int .i64 c) := rowCells bx 1
  have r2 : W.cell? ⟨H, 2, .none⟩ = some (.int .i64 m) := rowCells bx 2
  have l0 : H < W.heap.size := (Array.getElem?_eq_some_iff.1 bx).1
  have n1 := Lib.hid (fun X => rnumber_any p hp X)
  have n2 := Lib.hid (fun X => rnumber_any c hc X)
  have n3 := Lib.hid (fun X => rnumber_any m hm X)
  have i1 := Lib.itoa_length_le p hp.1 hp.2
  have i2 := Lib.itoa_length_le c hc.1 hc.2
  have i3 := Lib.itoa_length_le m hm.1 hm.2
  have hpr0 : printO p c m l = match showsO l with | some t => (headL p c m ++ t, 0) | none => ([], 1) := rfl
  have hhd : headL p c m = ((((([104, 101, 97, 112, 32] ++ Lib.itoa p) ++ [32]) ++ Lib.itoa c) ++ [32]) ++ Lib.itoa m) ++ [10] := by
    unfold headL wordsL
    simp only [List.flatMap_cons, List.flatMap_nil, List.append_assoc, List.cons_append, List.nil_append, List.append_nil]
  generalize Lib.itoa p = I1 at *
  generalize Lib.itoa c = I2 at *
  generalize Lib.itoa m = I3 at *
  generalize headL p c m = HL at *
  obtain ⟨A1, a1, a1'⟩ : ∃ A, Hid (A = [104, 101, 97, 112, 32] ++ I1) ∧ A = [104, 101, 97, 112, 32] ++ I1 := ⟨_, Lib.hid rfl, rfl⟩
  obtain ⟨A2, a2, a2'⟩ : ∃ A, Hid (A = A1 ++ [32]) ∧ A = A1 ++ [32] := ⟨_, Lib.hid rfl, rfl⟩
  obtain ⟨A3, a3, a3'⟩ : ∃ A, Hid (A = A2 ++ I2) ∧ A = A2 ++ I2 := ⟨_, Lib.hid rfl, rfl⟩
  obtain ⟨A4, a4, a4'⟩ : ∃ A, Hid (A = A3 ++ [32]) ∧ A = A3 ++ [32] := ⟨_, Lib.hid rfl, rfl⟩
  obtain ⟨A5, a5, a5'⟩ : ∃ A, Hid (A = A4 ++ I3) ∧ A = A4 ++ I3 := ⟨_, Lib.hid rfl, rfl⟩
  have z1 : A1.length ≤ 26 := by rw [a1']; simp; omega
  have z2 : A2.length ≤ 27 := by rw [a2']; simp; omega
  have z3 : A3.length ≤ 48 := by rw [a3']; simp; omega
  have z4 : A4.length ≤ 49 := by rw [a4']; simp; omega
  have z5 : A5.length ≤ 70 := by rw [a5']; simp; omega
  have e1 : ByteArray.mk #[104, 101, 97, 112, 32] ++ S I1 = S A1 := by rw [a1']; exact S_lit [104, 101, 97, 112, 32] I1
  have e2 : S A1 ++ ByteArray.mk #[32] = S A2 := by rw [a2']; exact S_lit' [32] A1
  have e3 : S A2 ++ S I2 = S A3 := by rw [a3']; exact S_append _ _
  have e4 : S A3 ++ ByteArray.mk #[32] = S A4 := by rw [a4']; exact S_lit' [32] A3
  have e5 : S A4 ++ S I3 = S A5 := by rw [a5']; exact S_append _ _
  have e6 : S A5 ++ ByteArray.mk #[10] = S HL := by rw [hhd, ← a1', ← a2', ← a3', ← a4', ← a5']; exact S_lit' [10] A5
  have z6 : HL.length ≤ 71 := by rw [hhd, ← a1', ← a2', ← a3', ← a4', ← a5']; simp; omega
  clear a1' a2' a3' a4' a5' hhd hp hc hm
  obtain ⟨n, hnn, hn'⟩ : ∃ n, Hid (n = l.length) ∧ n = l.length := ⟨_, Lib.hid rfl, rfl⟩
  rw [← hn'] at hcap hlen hr
  replace hrow := Lib.hid hrow
  rw [← hn']
  clear hn'
  replace hf := Lib.hid hf
  replace hsm := Lib.hid hsm
  have hbad := Lib.hid (showsO_bad l)
  replace hpr0 := Lib.hid hpr0
  refine wp_region_ext (by kernel_rfl) (by kernel_rfl) ?_
  repeat (go_big_quiet_step ((first | (go_at_call 19; (with_reducible exact ext_of (n1.out _))) | (go_at_call 19; (with_reducible exact ext_of (n2.out _))) | (go_at_call 19; (with_reducible exact ext_of (n3.out _))))))
  refine wpQuiet_nil ?_
  rintro _ ⟨e, rfl⟩
  have hbZ := hb0.trans (e.below.mono hb0.size)
  generalize e.w = Z at *
  clear e
  clear r0 r1 r2 l0 bx n1 n2 n3 e1 e2 e3 e4 e5 e6 hb0
  have wn1 : IntKind.i64.wrap ((n : Int) + 1) = (n : Int) + 1 := IntWalk.i64_in _ ⟨by omega, by omega⟩
  have hn4 : ¬ (4000 : Int) < (n : Int) + 1 := by omega
  go_wp2_with fail
  go_loopw [6, 7, 8] (fun v6 v7 v8 wr => ∃ (i : Nat) (t : List UInt8), i ≤ n ∧ v6 = .string (S (HL ++ t)) ∧ v7 = .bool false ∧ v8 = .int .i64 i ∧ showsO (l.take i) = some t ∧ Below w.heap.size w wr) (fun _ _ v8 _ => n - (intOf v8).toNat)
  case atStart => exact ⟨0, [], Nat.zero_le _, by rw [List.append_nil], rfl, rfl, rfl, hbZ⟩
  case round =>
    obtain ⟨i, t, hi, rfl, rfl, rfl, hti, hbr⟩ := hrel
    obtain ⟨Y, rfl⟩ : ∃ V : World, V = wr := ⟨_, rfl⟩
    have htl := hsm.out i t hti
    by_cases hlt : i < n
    · have hlt' : (i : Int) < (n : Int) := by omega
      have hi0' : (0 : Int) ≤ (i : Int) := by omega
      have wi1 : IntKind.i64.wrap ((i : Int) + 1) = (i : Int) + 1 := IntWalk.i64_in _ ⟨by omega, by omega⟩
      have hil : i < l.length := hnn.out ▸ hlt
      obtain ⟨b, off, rfl, hbw, y0, y1, y2, y3, y4, y5⟩ := hr.nth i hil
      have y0 := keepF hbr _ _ _ y0
      have y1 := keepF hbr _ _ _ y1
      have y2 := keepF hbr _ _ _ y2
      have y3 := keepF hbr _ _ _ y3
      have y4 := keepF hbr _ _ _ y4
      have y5 := keepF hbr _ _ _ y5
      have hsh := Lib.hid (fun X => rline_any l[i] (hf.out _ (List.getElem_mem hil)) X)
      have hb1 := hbad.out i hil
      have htk : showsO (l.take (i + 1)) = (showL l[i]).map fun s => t ++ (s ++ [10]) := by
        rw [List.take_succ_eq_append_getElem hil, showsO_snoc, hti]; rfl
      have hs1 : ∀ s, showL l[i] = some s → (HL ++ t).length + s.length + 1 ≤ 65536 := fun s (hs : showL l[i] = some s) => by
        have := hsm.out (i + 1) (t ++ (s ++ [10])) (by rw [htk, hs]; rfl)
        simp only [List.length_append, List.length_singleton] at this ⊢
        omega
      have hfin : Hid (∀ s X V, showL l[i] = some s → V = (HL ++ t) ++ s ++ [10] → Below w.heap.size w X → (∃ (k : Nat) (t' : List UInt8), k ≤ n ∧ Value.string (S V) = .string (S (HL ++ t')) ∧ Value.bool false = .bool false ∧ Value.int .i64 ((i : Int) + 1) = .int .i64 k ∧ showsO (l.take k) = some t' ∧ Below w.heap.size w X) ∧ n - (intOf (Value.int .i64 ((i : Int) + 1))).toNat < n - (intOf (Value.int .i64 (i : Int))).toNat) := Lib.hid fun s X V h1 hV h2 =>
        ⟨⟨i + 1, t ++ (s ++ [10]), by omega, by rw [hV]; simp [List.append_assoc], rfl, by go_num, by rw [htk, h1]; rfl, h2⟩, by simp [intOf]; omega⟩
      replace hb1 := Lib.hid hb1
      replace hs1 := Lib.hid hs1
      clear htk hbad hsm hti hr hrow hf hbZ
      generalize l[i] = ch at *
      generalize HL ++ t = U at *
      obtain ⟨c1, c2, c3, c4, c5, c6⟩ := ch
      unfold Ch.val at hsh
      cases hso : showL ⟨c1, c2, c3, c4, c5, c6⟩ with
      | none =>
        have hp0 := hpr0.out
        rw [hb1.out hso] at hp0
        replace hp0 := Lib.hid hp0
        rw [hso] at hsh
        clear hfin hs1 hb1 hpr0 hso
        go_wp2_with (go_at_call 20; refine (hsh.out _).mono ?_; rintro r w3 ⟨⟨s, rfl, _⟩, hb3⟩)
        go_ret2
        exact ⟨by rw [hp0.out]; rfl, hbr.trans (hb3.mono hbr.size)⟩
      | some s0 =>
        have hs2 := hs1.out s0 hso
        rw [hso] at hsh hfin
        clear hs1 hb1 hpr0 hso
        have q1 : IntKind.i64.wrap ((U.length : Int) + (s0.length : Int)) = (U.length : Int) + (s0.length : Int) := IntWalk.i64_in _ ⟨by omega, by omega⟩
        have q2 : IntKind.i64.wrap ((U.length : Int) + (s0.length : Int) + 1) = (U.length : Int) + (s0.length : Int) + 1 := IntWalk.i64_in _ ⟨by omega, by omega⟩
        have q3 : ¬ (65536 : Int) < (U.length : Int) + (s0.length : Int) + 1 := by omega
        have u1 : (S U).size = U.length := S_size U
        have u2 : (S s0).size = s0.length := S_size s0
        obtain ⟨V1, v1, v1'⟩ : ∃ V, Hid (V = U ++ s0) ∧ V = U ++ s0 := ⟨_, Lib.hid rfl, rfl⟩
        obtain ⟨V2, v2, v2'⟩ : ∃ V, Hid (V = V1 ++ [10]) ∧ V = V1 ++ [10] := ⟨_, Lib.hid rfl, rfl⟩
        have e1 : S U ++ S s0 = S V1 := by rw [v1']; exact S_append _ _
        have e2 : S V1 ++ ByteArray.mk #[10] = S V2 := by rw [v2']; exact S_lit' [10] V1
        have e3 : V1.length ≤ 65536 := by rw [v1']; simp; omega
        clear v1' v2'
        go_upto_region 9 with (go_at_call 20; refine (hsh.out _).mono ?_; rintro r w3 ⟨⟨s, rfl, hs⟩, hb3⟩; obtain rfl := hs s0 rfl; replace hb3 := Lib.hid hb3)
        clear hs
        have q4 : decide ((65536 : Int) < (U.length : Int) + (s.length : Int) + 1) = false := by simpa using q3
        go_wp2_with fail
        obtain ⟨⟨k, t', g1, g2, _, g3, g4, g5⟩, g6⟩ := hfin.out s w3 V2 rfl (by rw [v2.out, v1.out]) (hbr.trans (hb3.out.mono hbr.size))
        exact ⟨⟨k, t', g1, g2, rfl, g3, g4, g5⟩, g6⟩
    · have hin : i = n := by omega
      subst hin
      have hfull : l.take i = l := List.take_of_length_le (Nat.le_of_eq hnn.out.symm)
      rw [hfull] at hti
      have hp0 := hpr0.out
      rw [hti] at hp0
      replace hp0 := Lib.hid hp0
      clear hpr0 hti hfull hbad hsm hf hrow
      go_wp2_with fail
      go_ret2
      exact ⟨by rw [hp0.out]; rfl, hbr⟩
end Go.Proofs.YtkeiehgojclecaaDoor
