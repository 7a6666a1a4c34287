/- The law ModelRoom: the walk. -/
import Derived.Test.YtpplmgahpohbmabMdlA
namespace Go.Proofs.Ytpplmgahpohbmab
open Go.RowKit
attribute [local go_sem ↓] Go.wp_at_zero Go.wp_at_succ

/-- What all these deeds, taken, leave. -/
def takesL (W : Int) (xs : List Dd) : List Bk := xs.foldl (fun bs x => takeB W bs x.a x.n) []
theorem takesL_snoc (W : Int) (xs : List Dd) (x : Dd) : takesL W (xs ++ [x]) = takeB W (takesL W xs) x.a x.n := by simp [takesL, List.foldl_append]

set_option maxRecDepth 100000 in
set_option maxHeartbeats 4000000 in
theorem modelRoom_any (xs : List Dd) (v : Value) (n : Nat) (w : World) (hr : RdD w v xs) (hf : ∀ x ∈ xs, x.fit) (hn0 : n ≤ 255) :
    Calls Try.prog 3 #[v, .int .u8 n] w fun e w' => e = .returned (.bool true) ∧ Below w.heap.size w w' := by
  obtain ⟨ao, cap, rfl, hcap, hcm, hrow⟩ := hr.nth
  obtain ⟨N, hN, hN'⟩ : ∃ N, Hid (N = xs.length) ∧ N = xs.length := ⟨_, Lib.hid rfl, rfl⟩
  rw [← hN'] at hcap ⊢
  clear hN'
  by_cases hlong : 40 < N
  · have h1 : (40 : Int) < (N : Int) := by omega
    go_enter Try.func3, Try.ntmps3
    go_wp2_with (go_at_call 7; refine (awake_any _).mono ?_; rintro e w1 ⟨rfl, hb1⟩)
    go_ret
    exact ⟨rfl, hb1⟩
  · have hN40 : N ≤ 40 := by omega
    obtain ⟨k, hk⟩ : ∃ k : Nat, (1 : Int) + (n : Int) % 50 = (k : Int) := ⟨1 + n % 50, by omega⟩
    have hk1 : 1 ≤ k := by omega
    have hk2 : k ≤ 50 := by omega
    have ec : capW 50 = 50 := by decide
    replace ec := Lib.hid ec
    have hnil : ∀ (W : World) (a : Addr), (binOp .eql 24 (.pointer (some a)) (.pointer none)).run Try.prog W = .ok (.bool false) W := fun W a => by kernel_rfl
    go_enter Try.func3, Try.ntmps3
    go_wp2_with fail
    refine (awake_any _).mono ?_
    rintro e w1 ⟨rfl, hb1⟩
    have hs1 := hb1.size
    go_wp2_with fail
    refine (new_any 50 _).mono ?_
    rintro e w2 ⟨rfl, hb2, m2⟩
    rw [ec.out] at m2
    go_wp2_with fail
    go_loopw [7] (fun vi wr => ∃ (i : Nat) (sl : Value), i ≤ N ∧ vi = .int .i64 i ∧ PM w1.heap.size wr w1.heap.size sl 50 (takesL 50 (xs.take i)) ∧ Below w1.heap.size w1 wr) (fun vi _ => N - (intOf vi).toNat)
    case atStart => exact ⟨0, _, Nat.zero_le _, rfl, m2, hb2⟩
    case round =>
      obtain ⟨i, sl, hi, rfl, mr, hbr⟩ := hrel
      by_cases hlt : i < N
      · have hil : i < xs.length := hN.out ▸ hlt
        obtain ⟨b, off, rfl, hb, hc⟩ := hrow (fun e => by rw [e] at hil; simp at hil)
        obtain ⟨_, y1, y2⟩ := hc i hil
        obtain ⟨⟨f1, f2⟩, f3, f4⟩ := hf _ (List.getElem_mem hil)
        have hnx : takesL 50 (xs.take (i + 1)) = takeB 50 (takesL 50 (xs.take i)) xs[i].a xs[i].n := by rw [List.take_succ_eq_append_getElem hil, takesL_snoc]
        generalize xs[i] = d at *
        obtain ⟨d0, da, dn⟩ := d
        simp only at f1 f2 f3 f4 hnx y1 y2
        have hb0r : Below w.heap.size w wr := hb1.trans (hbr.mono hs1)
        have x1 := keepF hb0r _ _ _ y1
        have x2 := keepF hb0r _ _ _ y2
        have hi0 : (0 : Int) ≤ (i : Int) := by omega
        have hin : (i : Int) < (N : Int) := by omega
        replace hnx := Lib.hid hnx
        clear hc
        go_wp2_with fail
        go_region_held3 (fun w' => w'.cell? ⟨b, off + i * 3 + 1, .none⟩ = some (.int .i64 da) ∧ w'.cell? ⟨b, off + i * 3 + 2, .none⟩ = some (.int .i64 dn))
          (first | go_keep | exact ⟨keepF hb3 _ _ _ y1, keepF hb3 _ _ _ y2⟩)
          ((go_at_call 9; refine (take_any (mr.below (Below.refl _ _).drew) da dn f1 f2 f3 f4).mono ?_; rintro e w3 ⟨rfl, sl3, m3, o3, _⟩; have hbr3 := Only.below' hbr.drew o3 hbr.size (mr.below (Below.refl _ _).drew).foot_ge; have hb3 : Below w.heap.size w w3 := hb1.trans (hbr3.mono hs1)))
        go_wp2
        exact ⟨⟨i + 1, sl3, by omega, by go_num, by rw [hnx.out]; exact m3, hbr3⟩, by simp [intOf]; omega⟩
      · have hie : i = N := by omega
        subst hie
        have hj0 : ¬ ((i : Int) < (i : Int)) := by omega
        rw [List.take_of_length_le (by rw [← hN.out]; exact Nat.le_refl _)] at mr
        obtain ⟨bs, hbs⟩ : ∃ bs, bs = takesL 50 xs := ⟨_, rfl⟩
        rw [← hbs] at mr
        clear hlt hbs
        obtain ⟨R, hR⟩ : ∃ R, R = roomB 50 k 0 bs := ⟨_, rfl⟩
        obtain ⟨U, hU⟩ : ∃ U, U = usedB bs := ⟨_, rfl⟩
        have hRT : R = true ↔ ∃ a, 0 ≤ a ∧ a < (50 : Int) ∧ takeOk 50 bs a k = true := by rw [hR]; exact room_take mr.ok (by omega)
        have hUb := usedB_le mr.ok
        rw [← hU] at hUb
        have hkd : (decide ((1 : Int) ≤ (k : Int)) && roomB 50 k 0 bs) = R := by rw [decide_eq_true (by omega : (1 : Int) ≤ (k : Int)), hR]; rfl
        replace hkd := Lib.hid hkd
        replace hRT := Lib.hid hRT
        replace hU := Lib.hid hU
        replace hR := Lib.hid hR
        have hbs1 := hbr.size
        go_wp2_with fail
        refine (room_any mr k (by omega) (by omega)).mono ?_
        rintro e w3 ⟨rfl, b3⟩
        rw [hkd.out]
        have m3 := mr.below b3
        have hb3 : Below w1.heap.size w1 w3 := hbr.trans (b3.mono hbs1)
        go_wp2_with fail
        refine (used_any m3).mono ?_
        rintro e w4 ⟨rfl, b4⟩
        rw [← hU.out]
        have m4 := m3.below b4
        have hb4 : Below w1.heap.size w1 w4 := hb3.trans (b4.mono hb3.size)
        go_wp2_with fail
        go_loopw [10, 11] (fun vg va wr => ∃ (a : Nat) (sl : Value), a ≤ 50 ∧ va = .int .i64 a ∧ ((vg = .int .i64 (-1) ∧ PM w1.heap.size wr w1.heap.size sl 50 bs ∧ ∀ a' : Nat, a' < a → takeOk 50 bs a' k = false) ∨ (∃ g : Nat, g < 50 ∧ vg = .int .i64 g ∧ takeOk 50 bs g k = true ∧ PM w1.heap.size wr w1.heap.size sl 50 (putB bs g k))) ∧ Below w1.heap.size w1 wr) (fun _ va _ => 50 - (intOf va).toNat)
        case atStart => exact ⟨0, _, by omega, rfl, .inl ⟨rfl, m4, fun a' h => by omega⟩, hb4⟩
        case round =>
          obtain ⟨a, sl5, ha, rfl, hor, hbr5⟩ := hrel
          have hs5 := hbr5.size
          have hb05 : Below w.heap.size w wr := hb1.trans (hbr5.mono hs1)
          rcases hor with ⟨rfl, m5, hno⟩ | ⟨g, hg, rfl, hgt, m5⟩
          · by_cases hlt : a < 50
            · by_cases hok : takeOk 50 bs a k = true
              · have htb := takeB_eq hok
                replace htb := Lib.hid htb
                have hokh := Lib.hid hok
                replace hno := Lib.hid hno
                clear hok
                go_wp2_with fail
                refine (take_any m5 a k (by omega) (by omega) (by omega) (by omega)).mono ?_
                rintro e w6 ⟨rfl, sl6, m6, o6, _⟩
                rw [hokh.out]
                rw [htb.out] at m6
                have hb6 := Only.below' hbr5 o6 hs5 m5.foot_ge
                go_wp2
                exact ⟨⟨a + 1, sl6, by omega, by go_num, .inr ⟨a, hlt, rfl, hokh.out, m6⟩, hb6⟩, by simp [intOf]; omega⟩
              · have hok' : takeOk 50 bs a k = false := by simpa using hok
                have htb := takeB_no hok'
                have hno2 : ∀ a' : Nat, a' < a + 1 → takeOk 50 bs a' k = false := fun a' h => by
                  rcases Nat.lt_or_ge a' a with h1 | h1
                  · exact hno a' h1
                  · have : a' = a := by omega
                    subst this; exact hok'
                replace htb := Lib.hid htb
                replace hok' := Lib.hid hok'
                replace hno2 := Lib.hid hno2
                clear hok hno
                go_wp2_with fail
                refine (take_any m5 a k (by omega) (by omega) (by omega) (by omega)).mono ?_
                rintro e w6 ⟨rfl, sl6, m6, o6, _⟩
                rw [hok'.out]
                rw [htb.out] at m6
                have hb6 := Only.below' hbr5 o6 hs5 m5.foot_ge
                go_wp2
                exact ⟨⟨a + 1, sl6, by omega, by go_num, .inl ⟨rfl, m6, hno2.out⟩, hb6⟩, by simp [intOf]; omega⟩
            · have hR0 : R = false := by
                rw [Bool.eq_false_iff]
                intro h
                obtain ⟨a', h1, h2, h3⟩ := hRT.out.1 h
                have := hno a'.toNat (by omega)
                rw [Int.toNat_of_nonneg h1, h3] at this
                cases this
              subst hR0
              clear hno
              go_wp2_with fail
              refine (used_any m5).mono ?_
              rintro e w6 ⟨rfl, b6⟩
              rw [← hU.out]
              go_wp2
              go_ret
              exact ⟨by simp, hb05.trans (b6.mono hb05.size)⟩
          · have hR1 : R = true := hRT.out.2 ⟨g, by omega, by omega, hgt⟩
            subst hR1
            have hat : Hid (blkV (atB (putB bs g k) g) = .tuple #[.agg #[.int .i64 g, .int .i64 k], .bool true]) := by show _ = _; rw [atB_put]; rfl
            have hup : Hid (usedB (putB bs g k) = U + k) := by show _ = _; rw [usedB_put, hU.out]
            have hfp : Hid (foundB g (putB bs g k) = true) := foundB_put bs g k
            have hgp : Hid (giveB (putB bs g k) g = bs) := giveB_put bs g k
            replace hgt := Lib.hid hgt
            have hg0 : ¬ ((g : Int) < 0) := by omega
            have hU0 : 0 ≤ U := hUb.1
            have hU1 : U ≤ 50 := by omega
            by_cases ha5 : (a : Int) < 50
            all_goals
              go_wp2_with fail
              refine (at_any m5 g).mono ?_
              rintro e w6 ⟨rfl, b6⟩
              rw [hat.out]
              have m6 := m5.below b6
              have hb6 : Below w1.heap.size w1 w6 := hbr5.trans (b6.mono hs5)
              have m6' : PM w1.heap.size (w6.alloc (.cells #[.int .i64 g, .int .i64 k] 32)) w1.heap.size sl5 50 (putB bs g k) := m6.below ((Below.refl _ _).alloc (Nat.le_refl _) _)
              have hb6' : Below w1.heap.size w1 (w6.alloc (.cells #[.int .i64 g, .int .i64 k] 32)) := hb6.alloc hb6.size _
              have hs6 := hb6'.size
              go_wp2_with fail
              refine (used_any m6').mono ?_
              rintro e w7 ⟨rfl, b7⟩
              rw [hup.out]
              have m7 := m6'.below b7
              have hb7 : Below w1.heap.size w1 w7 := hb6'.trans (b7.mono hs6)
              go_wp2_with fail
              refine (give_any m7 g).mono ?_
              rintro e w8 ⟨rfl, sl8, m8, o8, _⟩
              rw [hfp.out]
              rw [hgp.out] at m8
              have hb8 := Only.below' hb7 o8 hb7.size m7.foot_ge
              go_wp2_with fail
              refine (used_any m8).mono ?_
              rintro e w9 ⟨rfl, b9⟩
              rw [← hU.out]
              have m9 := m8.below b9
              have hb9 : Below w1.heap.size w1 w9 := hb8.trans (b9.mono hb8.size)
              go_wp2_with fail
              refine (room_any m9 k (by omega) (by omega)).mono ?_
              rintro e w10 ⟨rfl, b10⟩
              rw [hkd.out]
              have hb10 : Below w1.heap.size w1 w10 := hb9.trans (b10.mono hb9.size)
              go_wp2
              go_ret
              exact ⟨rfl, hb1.trans (hb10.mono hs1)⟩
end Go.Proofs.Ytpplmgahpohbmab
