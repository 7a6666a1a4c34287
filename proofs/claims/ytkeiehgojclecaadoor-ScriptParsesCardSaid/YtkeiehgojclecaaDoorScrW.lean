/- The walks of package script's numbers and floats. -/
import Derived.Test.YtkeiehgojclecaaDoorScrN

import Derived.Test.YtkeiehgojclecaaDoorScrV

import Derived.Test.YtkeiehgojclecaaDoorEdgeW

namespace Go.Proofs.YtkeiehgojclecaaDoor

open Go.RowKit

theorem below_grow {w : World} (k : Nat) (os : Array Obj) : Below w.heap.size w (Sort.grow (w.drewN k) os) :=
  ⟨rfl, rfl, rfl, by simp [Sort.grow, World.drewN], fun i hi => by
    show ((w.drewN k).heap ++ os)[i]? = w.heap[i]?
    rw [Array.getElem?_append_left (by exact hi)]; rfl⟩
theorem formatInt_any (v : Int) (h1 : -9223372036854775808 ≤ v ∧ v ≤ 9223372036854775807) (w : World) (h : Laid w) :
    Calls Tryd.prog 65 #[.int .i64 v, .int .i64 10] w fun e w' => e = .returned (.string (S (Lib.itoa v))) ∧ Below w.heap.size w w' :=
  (Tryd.strconv_FormatInt_10 v h1.1 h1.2 w h.tab).mono fun _ _ ⟨he, k, os, hw⟩ => ⟨he, hw ▸ below_grow k os⟩
theorem itoa_any (v : Int) (h1 : -9223372036854775808 ≤ v ∧ v ≤ 9223372036854775807) (w : World) (h : Laid w) :
    Calls Tryd.prog 41 #[.int .i64 v] w fun e w' => e = .returned (.string (S (Lib.itoa v))) ∧ Below w.heap.size w w' :=
  (Tryd.strconv_Itoa v h1.1 h1.2 w h.tab).mono fun _ _ ⟨he, k, os, hw⟩ => ⟨he, hw ▸ below_grow k os⟩
/-- How ParseInt ends at 64 bits. -/
theorem parseInt_any (l : List UInt8) (hl : l.length ≤ 281474976710656) (w : World) (h : Laid w) :
    Calls Tryd.prog 64 #[.string (S l), .int .i64 10, .int .i64 64] w fun e w' => (∃ v ev, e = .returned (.tuple #[.int .i64 v, ev]) ∧ (-9223372036854775808 ≤ v ∧ v ≤ 9223372036854775807) ∧ ((ev = .nilIface ∧ Lib.parseIntB 64 l = .ok v) ∨ ((∃ N, ev = .iface 139 (.pointer (some ⟨N, 0, .none⟩))) ∧ ∀ u, Lib.parseIntB 64 l ≠ .ok u))) ∧ Below w.heap.size w w' := by
  have hs : (S l).size = l.length := S_size l
  obtain ⟨tp, p, hes⟩ := h.es
  obtain ⟨tq, q, her⟩ := h.er
  cases hp : Lib.parseIntB 64 l with
  | ok v =>
    refine (Tryd.strconv_ParseInt_10_at64_ok (S l) (by omega) v (by rw [S_list]; exact hp) w).mono fun e w' ⟨he, hw⟩ => ⟨⟨v, .nilIface, he, i64_bounds hp, .inl ⟨rfl, rfl⟩⟩, ?_⟩
    rcases hw with rfl | ⟨t, rfl⟩
    · exact Below.refl _ _
    · exact Lib.bytesWorld_below w _ t
  | range =>
    refine (Tryd.strconv_ParseInt_10_at64_range (S l) (by omega) (by rw [S_list]; exact hp) _ w her (.inr ⟨_, _, rfl⟩)).mono fun e w' ⟨N, he, _, _, hb⟩ => ⟨⟨_, _, he, ?_, .inr ⟨⟨N, rfl⟩, fun u e => by cases e⟩⟩, hb⟩
    unfold Lib.intSat
    have e : (2 : Nat) ^ (64 - 1) = 9223372036854775808 := by decide
    rw [e]
    split <;> omega
  | _ =>
    exact (Tryd.strconv_ParseInt_10_at64_syntax (S l) (by omega) (by rw [S_list]; exact hp) _ w hes (.inr ⟨_, _, rfl⟩)).mono fun e w' ⟨N, he, _, _, hb⟩ => ⟨⟨0, _, he, by omega, .inr ⟨⟨N, rfl⟩, fun u e => by cases e⟩⟩, hb⟩
theorem number_any (l : List UInt8) (hl : l.length ≤ 281474976710656) (w : World) (h : Laid w) :
    Calls Tryd.prog 50 #[.string (S l)] w fun e w' => (∃ v : Int, e = .returned (.tuple #[.int .i64 v, .bool (numO l).isSome]) ∧ ∀ r, numO l = some r → v = r) ∧ Below w.heap.size w w' := by
  have hpi := Lib.hid (parseInt_any l hl w h)
  have hfi := Lib.hid (fun v hv X hX => formatInt_any v hv X (h.below (w' := X) hX))
  go_enter Tryd.func50, Tryd.ntmps50
  go_upto_region 2 with (go_at_call 64; refine hpi.out.mono ?_; rintro r w1 ⟨⟨v, ev, rfl, hv, hev⟩, hb1⟩; replace hev := Lib.hid hev)
  rcases hev.out with ⟨rfl, hp⟩ | ⟨⟨N, rfl⟩, hp⟩
  · clear hev hpi
    replace hp := Lib.hid hp
    go_wp2_with (go_at_call 65; refine (hfi.out v hv _ hb1).mono ?_; rintro r w2 ⟨rfl, hb2⟩)
    go_ret2
    refine ⟨⟨v, ?_, fun r hr => ?_⟩, hb1.trans (hb2.mono hb1.size)⟩
    · have e : (Lib.itoa v == l) = (numO l).isSome := by
        unfold numO
        rw [hp.out]
        by_cases h : Lib.itoa v = l <;> simp [h]
      rw [← e]; rfl
    · have := ((numO_iff l r).1 hr).1
      subst this
      have h2 := ((numO_iff _ r).1 hr).2
      have h3 := hp.out
      rw [parse_itoa h2] at h3
      injection h3 with h3
      exact h3.symm
  · have hno : numO l = none := by unfold numO; split; exact absurd (by assumption) (hp _); rfl
    clear hev hpi hp
    go_wp2
    go_ret2
    exact ⟨⟨v, by rw [hno]; rfl, fun r hr => (by rw [hno] at hr; cases hr)⟩, hb1⟩
/-- The numbers that words are, all of them. -/
def numsO : List (List UInt8) → Option (List Int)
  | [] => some []
  | l :: r => (numO l).bind fun v => (numsO r).map fun vs => v :: vs
theorem written_any (x : Nat) (hx : x < 18446744073709551616) (w : World) (h : Laid w) :
    Calls Tryd.prog 42 #[F64 x] w fun e w' => e = .returned (.string (S (wrL x))) ∧ Below w.heap.size w w' := by
  have hk := Lib.hid (fun X => ekind_any x X)
  have hf := Lib.hid (fun X hX => formatUint_any x hx X (h.below (w' := X) hX))
  have hr := Lib.hid (fun c X (hc : c ≤ 16) => Tryd.strings_Repeat ⟨#[48]⟩ c X (by omega) (by show 1 * c ≤ _; omega))
  have hb := run_bits x
  have hlen := hexL_le16 hx
  have hrep : ∀ c, Lib.repeatL [48] c = List.replicate c 48 := by
    intro c
    induction c with
    | zero => rfl
    | succ c ih => rw [Lib.repeatL, ih, List.replicate_succ]; rfl
  have hwr : wrL x = if Fl.nan x = true then [110, 97, 110] else List.replicate (16 - (hexL x).length) 48 ++ hexL x := rfl
  have hkn : (Fl.kindI x = 0) = (Fl.nan x = true) := by
    unfold Fl.kindI
    cases Fl.nan x
    · simp
      split
      · decide
      · split
        · decide
        · split
          · decide
          · split <;> decide
    · simp
  by_cases hn : Fl.nan x = true
  · have e1 : (Fl.kindI x == 0) = true := by rw [beq_iff_eq, hkn]; exact hn
    rw [if_pos hn] at hwr
    rw [hwr]
    clear hwr hkn hr hf hrep hlen
    generalize Fl.kindI x = ki at *
    go_enter Tryd.func42, Tryd.ntmps42
    go_wp2_with (go_at_call 54; refine (hk.out _).mono ?_; rintro r w1 ⟨rfl, rfl⟩)
    go_ret
    exact ⟨rfl, Below.refl _ _⟩
  · have e1 : (Fl.kindI x == 0) = false := by rw [beq_eq_false_iff_ne, ne_eq, hkn]; exact hn
    rw [if_neg hn] at hwr
    rw [hwr]
    have wl : IntKind.i64.wrap (16 - ((hexL x).length : Int)) = ((16 - (hexL x).length : Nat) : Int) := by rw [IntKind.wrap_i64]; omega
    have hr2 := Lib.hid (fun X => hr.out (16 - (hexL x).length) X (by omega))
    rw [hrep] at hr2
    clear hwr hkn hr hn hrep
    generalize Fl.kindI x = ki at *
    go_enter Tryd.func42, Tryd.ntmps42
    go_wp2_with (first
      | (go_at_call 54; refine (hk.out _).mono ?_; rintro r w1 ⟨rfl, rfl⟩)
      | (go_at_call 55; refine (hf.out _ (Below.refl _ _)).mono ?_; rintro r w2 ⟨rfl, hb2⟩)
      | (go_at_call 56; refine (hr2.out _).mono ?_; rintro r w3 ⟨rfl, hb3⟩))
    go_ret
    exact ⟨congrArg (fun s => Ending.returned (.string s)) (S_append _ _), hb2.trans (hb3.mono hb2.size)⟩
theorem nanV_any (w : World) : Calls Tryd.prog 57 #[] w fun e w' => e = .returned (F64 nanV) ∧ w' = w := by
  have hb := fun X => run_frombits 9221120237041090561 X
  go_enter Tryd.func57, Tryd.ntmps57
  go_wp2
  go_ret
  exact ⟨rfl, rfl⟩
theorem read_any (l : List UInt8) (hl : l.length ≤ 281474976710656) (w : World) (h : Laid w) :
    Calls Tryd.prog 51 #[.string (S l)] w fun e w' => (∃ x : Nat, e = .returned (.tuple #[F64 x, .bool (rdO l).isSome]) ∧ x < 18446744073709551616 ∧ ∀ r, rdO l = some r → x = r) ∧ Below w.heap.size w w' := by
  have hpu := Lib.hid (parseUint_any (S l) (by rw [S_size]; exact hl) w h)
  have hwr := Lib.hid (fun x hx X hX => written_any x hx X (h.below (w' := X) hX))
  by_cases hn : l = [110, 97, 110]
  · have hro : rdO l = some nanV := by unfold rdO; rw [if_pos hn]
    have e1 : (l == [110, 97, 110]) = true := by simp [hn]
    rw [hro]
    clear hpu hwr hro
    subst hn
    go_enter Tryd.func51, Tryd.ntmps51
    go_wp2_with (go_at_call 57; refine (nanV_any _).mono ?_; rintro r w1 ⟨rfl, rfl⟩)
    go_ret2
    exact ⟨⟨nanV, rfl, by decide, fun r hr => by injection hr⟩, Below.refl _ _⟩
  · have e1 : (l == [110, 97, 110]) = false := by simpa using hn
    have hfb := fun (v : Int) X => run_frombits v X
    replace hn := Lib.hid hn
    go_enter Tryd.func51, Tryd.ntmps51
    go_upto_region 4 with (go_at_call 66; refine hpu.out.mono ?_; rintro r w1 ⟨v, ev, rfl, hp, hb1⟩; replace hp := Lib.hid hp)
    obtain ⟨⟨v0, v1⟩, hev, hx, hz⟩ := hp.out
    obtain ⟨x, rfl⟩ : ∃ x : Nat, v = x := ⟨v.toNat, by omega⟩
    have hx64 : x < 18446744073709551616 := by omega
    have hkey : Hid (∀ r, rdO l = some r → ev = .nilIface ∧ x = r) := Lib.hid fun r hr => by
      rcases (rdO_iff l r).1 hr with ⟨h1, _⟩ | ⟨h1, h2, h3⟩
      · exact absurd h1 hn.out
      · have := hx (by rw [S_size, h3, pad16_length h1]; decide) r (by rw [S_list, h3]; exact hexP_pad r h1)
        exact ⟨this.1, by omega⟩
    have hwl : Hid ((wrL x == l) = true → rdO l = some x) := Lib.hid fun h => by
      have h := beq_iff_eq.1 h
      refine (rdO_iff l x).2 (.inr ?_)
      unfold wrL at h
      split at h
      · exact absurd h.symm hn.out
      · rename_i hnx
        exact ⟨hx64, by simpa using hnx, h.symm⟩
    have hlw : Hid (∀ r, rdO l = some r → wrL r = l) := Lib.hid fun r hr => by
      rcases (rdO_iff l r).1 hr with ⟨h1, _⟩ | ⟨h1, h2, h3⟩
      · exact absurd h1 hn.out
      · unfold wrL; rw [if_neg (by simp [h2]), h3]
    clear hx hz hp v0 v1
    rcases hev with rfl | ⟨N, rfl⟩
    · go_wp2_with (go_at_call 42; refine (hwr.out x hx64 _ hb1).mono ?_; rintro r w2 ⟨rfl, hb2⟩)
      go_ret2
      refine ⟨⟨x, ?_, hx64, fun r hr => (hkey.out r hr).2⟩, hb1.trans (hb2.mono hb1.size)⟩
      have e2 : (wrL x == l) = (rdO l).isSome := by
        cases hr : rdO l with
        | none =>
          cases hb : wrL x == l with
          | false => rfl
          | true => rw [hwl.out hb] at hr; cases hr
        | some r =>
          have := (hkey.out r hr).2
          subst this
          rw [hlw.out _ hr]; simp
      rw [← e2]; rfl
    · have hno : rdO l = none := by
        cases hr : rdO l with
        | none => rfl
        | some r => have := (hkey.out r hr).1; cases this
      clear hkey hwl hlw
      go_wp2
      go_ret2
      exact ⟨⟨x, by rw [hno]; rfl, hx64, fun r hr => (by rw [hno] at hr; cases hr)⟩, hb1⟩
end Go.Proofs.YtkeiehgojclecaaDoor
