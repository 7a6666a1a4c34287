/- The reference's readNumber. -/
import Derived.Test.YtkeiehgojclecaaDoorRfH

namespace Go.Proofs.YtkeiehgojclecaaDoor

open Go.RowKit Go.Lib

attribute [local go_sem ↓] Go.wp_at_zero Go.wp_at_succ

/-- The digits behind a sign. -/
def Sgn (l m : List UInt8) (neg : Bool) : Prop := (neg = true ∧ l = 45 :: m) ∨ (neg = false ∧ l = m ∧ l.head? ≠ some 45)
theorem dec_not45 (u : Nat) : (decDigits u).head? ≠ some 45 := by
  obtain ⟨c, r, h, h1, h2⟩ := dec_first u
  rw [h]
  intro e
  simp only [List.head?_cons, Option.some.injEq] at e
  rw [e] at h1
  exact absurd h1 (by decide)
theorem dec_19 {u : Nat} (h : u ≤ 9223372036854775808) : (decDigits u).length ≤ 19 := dec_len 18 u (by omega)
theorem num_inv {l m : List UInt8} {neg : Bool} {z : Int} (hs : Sgn l m neg) (h : numO l = some z) : canon m ∧ m.length ≤ 19 ∧ ∃ u : Nat, digs 0 m = some u ∧ z = (if neg = true then -(u : Int) else u) ∧ (neg = true → 0 < u ∧ u ≤ 9223372036854775808) ∧ (neg = false → u ≤ 9223372036854775807) := by
  obtain ⟨h1, h2, h3⟩ := (numO_iff _ _).1 h
  unfold itoa at h1
  by_cases hz : z < 0
  · rw [if_pos hz] at h1
    rcases hs with ⟨rfl, e⟩ | ⟨rfl, e, e2⟩
    · rw [e] at h1
      injection h1 with _ h1
      subst h1
      exact ⟨dec_head _, dec_19 (by omega), _, digs_dec _, by rw [if_pos rfl]; omega, fun _ => ⟨by omega, by omega⟩, fun h => by cases h⟩
    · rw [h1] at e2; exact absurd rfl e2
  · rw [if_neg hz] at h1
    rcases hs with ⟨rfl, e⟩ | ⟨rfl, e, e2⟩
    · rw [e] at h1
      have := dec_not45 z.toNat
      rw [← h1] at this
      exact absurd rfl this
    · rw [← e, h1]
      exact ⟨dec_head _, dec_19 (by omega), _, digs_dec _, by rw [if_neg (by decide)]; omega, (fun h => by cases h), fun _ => by omega⟩
theorem num_yes {l m : List UInt8} {neg : Bool} {u : Nat} (hs : Sgn l m neg) (hc : canon m) (hd : digs 0 m = some u) (h1 : neg = true → 0 < u ∧ u ≤ 9223372036854775808) (h2 : neg = false → u ≤ 9223372036854775807) : numO l = some (if neg = true then -(u : Int) else u) := by
  have hm := dec_digs hc hd
  rw [numO_iff]
  unfold itoa
  rcases hs with ⟨rfl, e⟩ | ⟨rfl, e, e2⟩
  · have := h1 rfl
    rw [if_pos rfl, if_pos (by omega), e, ← hm, show (-(u : Int)).natAbs = u by omega]
    exact ⟨rfl, by omega, by omega⟩
  · have := h2 rfl
    simp only [Bool.false_eq_true, if_false]
    rw [if_neg (by omega), e, ← hm, show ((u : Int)).toNat = u by omega]
    exact ⟨rfl, by omega, by omega⟩
theorem num_no {l m : List UInt8} {neg : Bool} (hs : Sgn l m neg) (h : ¬ (canon m ∧ m.length ≤ 19 ∧ ∃ u : Nat, digs 0 m = some u ∧ (neg = true → 0 < u ∧ u ≤ 9223372036854775808) ∧ (neg = false → u ≤ 9223372036854775807))) : numO l = none := by
  cases e : numO l with
  | none => rfl
  | some z =>
    obtain ⟨h1, h2, u, h3, _, h4, h5⟩ := num_inv hs e
    exact absurd ⟨h1, h2, u, h3, h4, h5⟩ h
/-- What the function tells of a text that is none, and of one. -/
def NumAns (l : List UInt8) (e : Ending) : Prop := ∃ x : Int, e = .returned (.tuple #[.int .i64 x, .bool (numO l).isSome]) ∧ ∀ z, numO l = some z → x = z
theorem NumAns.no {l : List UInt8} {x : Int} (h : numO l = none) : NumAns l (.returned (.tuple #[.int .i64 x, .bool false])) := ⟨x, by rw [h]; rfl, fun z hz => by rw [h] at hz; cases hz⟩
theorem NumAns.yes {l : List UInt8} {z : Int} (h : numO l = some z) : NumAns l (.returned (.tuple #[.int .i64 z, .bool true])) := ⟨z, by rw [h]; rfl, fun y hy => by rw [h] at hy; injection hy⟩
theorem ten_18 {u i : Nat} (h : u < 10 ^ i) (hi : i ≤ 18) : u < 1000000000000000000 := Nat.lt_of_lt_of_le h (Nat.pow_le_pow_right (by decide) hi : 10 ^ i ≤ 10 ^ 18)
theorem ten_19 {u i : Nat} (h : u < 10 ^ i) (hi : i ≤ 19) : u < 10000000000000000000 := Nat.lt_of_lt_of_le h (Nat.pow_le_pow_right (by decide) hi : 10 ^ i ≤ 10 ^ 19)
set_option maxRecDepth 100000 in
set_option maxHeartbeats 1000000 in
theorem readNumber_any (l : List UInt8) (hl : l.length < 1000000) (w : World) :
    Calls Tryd.prog 44 #[.string (S l)] w fun e w' => NumAns l e ∧ w' = w := by
  have hsz : (S l).size = l.length := S_size l
  obtain ⟨n, hn, hn'⟩ : ∃ n, Hid (n = l.length) ∧ n = l.length := ⟨_, Lib.hid rfl, rfl⟩
  rw [← hn'] at hsz hl
  clear hn'
  go_enter Tryd.func44, Tryd.ntmps44
  go_upto_region 1 with fail
  go_cut [4] (fun v4 wx => v4 = .bool (decide (l.head? = some 45)) ∧ wx = w)
  case first =>
    match l, hn, hsz with
    | [], hn, hsz =>
      have h0 : n = 0 := hn.out
      subst h0
      go_wp2_with fail
      go_meet
      exact ⟨rfl, rfl⟩
    | b :: r, hn, hsz =>
      have h0 : (0 : Int) < (n : Int) := by have := hn.out; simp at this; omega
      have hx : ∀ h : 0 < (S (b :: r)).size, ((((S (b :: r))[0]'h).toNat : Int) == 45) = decide (b = 45) := fun h => by
        rw [S_get]
        show ((b.toNat : Int) == 45) = _
        rw [Bool.eq_iff_iff, beq_iff_eq, decide_eq_true_eq]
        constructor
        · intro e; exact UInt8.toNat_inj.1 (by simpa using (by omega : b.toNat = 45))
        · intro e; rw [e]; rfl
      have hh : Hid (decide ((b :: r).head? = some 45) = decide (b = 45)) := Lib.hid (by simp)
      generalize decide (b = 45) = q at *
      go_wp2_with fail
      go_meet
      exact ⟨by rw [hh.out], rfl⟩
  case rest =>
    obtain ⟨rfl, hw⟩ := hcut
    obtain rfl := hw.symm
    obtain ⟨q, hq, hq'⟩ : ∃ q, Hid (decide (l.head? = some 45) = q) ∧ decide (l.head? = some 45) = q := ⟨_, Lib.hid rfl, rfl⟩
    rw [hq']
    clear hq'
    go_upto_if 15 with fail
    go_cut [0] (fun v0 wx => ∃ m, v0 = .string (S m) ∧ wx = w ∧ Sgn l m q ∧ m.length < 1000000)
    case first =>
      cases q with
      | true =>
        have h45 : l.head? = some 45 := of_decide_eq_true hq.out
        obtain ⟨r, hr⟩ : ∃ r, l = 45 :: r := by
          match l, h45 with
          | b :: r, h45 => exact ⟨r, by simp at h45; rw [h45]⟩
        have htl := S_tail l 1 n hn.out.symm
        rw [show l.drop 1 = r by rw [hr]; rfl] at htl
        have h1 : (1 : Int) ≤ (n : Int) := by have := hn.out; rw [hr] at this; simp at this; omega
        have hlr : Hid (r.length < 1000000) := Lib.hid (by have := hn.out; rw [hr] at this; simp at this; omega)
        replace h45 := Lib.hid h45
        replace hr := Lib.hid hr
        go_wp2_with fail
        go_meet
        exact ⟨r, rfl, rfl, .inl ⟨rfl, hr.out⟩, hlr.out⟩
      | false =>
        have h45 : ¬ l.head? = some 45 := of_decide_eq_false hq.out
        have hlr : Hid (l.length < 1000000) := Lib.hid (by have := hn.out; omega)
        replace h45 := Lib.hid h45
        go_wp2_with fail
        go_meet
        exact ⟨l, rfl, rfl, .inr ⟨rfl, rfl, h45.out⟩, hlr.out⟩
    case rest =>
      obtain ⟨m, rfl, hw, hs, hlm⟩ := hcut
      obtain rfl := hw.symm
      clear hn hsz hl hq
      have hsz : (S m).size = m.length := S_size m
      obtain ⟨k, hk, hk'⟩ : ∃ k, Hid (k = m.length) ∧ k = m.length := ⟨_, Lib.hid rfl, rfl⟩
      rw [← hk'] at hsz hlm
      clear hk'
      replace hs := Lib.hid hs
      go_upto_region 4 with fail
      obtain ⟨bad, hbad⟩ : ∃ bad, Hid (bad = (decide (m = []) || decide (19 < k) || (decide (m.head? = some 48) && (decide (1 < k) || q)))) := ⟨_, Lib.hid rfl⟩
      go_cut [37] (fun v37 wx => v37 = .bool bad ∧ wx = w)
      case first =>
        match m, hk, hsz, hbad with
        | [], hk, hsz, hbad =>
          have h0 : k = 0 := hk.out
          have hb : Hid (bad = true) := Lib.hid (by rw [hbad.out]; simp)
          subst h0
          clear hbad
          go_wp2_with fail
          go_meet
          exact ⟨by rw [hb.out], rfl⟩
        | c :: r, hk, hsz, hbad =>
          have h0 : (0 : Int) < (k : Int) := by have := hk.out; simp at this; omega
          have hx : ∀ h : 0 < (S (c :: r)).size, ((((S (c :: r))[0]'h).toNat : Int) == 48) = decide (c = 48) := fun h => by
            rw [S_get]
            show ((c.toNat : Int) == 48) = _
            rw [Bool.eq_iff_iff, beq_iff_eq, decide_eq_true_eq]
            constructor
            · intro e; exact UInt8.toNat_inj.1 (by simpa using (by omega : c.toNat = 48))
            · intro e; rw [e]; rfl
          have hbad2 : Hid (bad = (decide (19 < k) || (decide (c = 48) && (decide (1 < k) || q)))) := Lib.hid (by rw [hbad.out]; simp)
          have e1 : decide ((1 : Int) < (k : Int)) = decide (1 < k) := by simp; omega
          by_cases h19 : 19 < k
          · have h19i : (19 : Int) < (k : Int) := by omega
            have hb : Hid (bad = true) := Lib.hid (by rw [hbad2.out]; simp [h19])
            replace h19 := Lib.hid h19
            clear hbad hbad2
            generalize decide (c = 48) = z at *
            go_wp2_with fail
            go_meet
            exact ⟨by rw [hb.out], rfl⟩
          · have h19i : ¬ (19 : Int) < (k : Int) := by omega
            have hb : Hid (bad = (decide (c = 48) && (decide (1 < k) || q))) := Lib.hid (by rw [hbad2.out]; simp [h19])
            replace h19 := Lib.hid h19
            clear hbad hbad2
            generalize decide (c = 48) = z at *
            cases z with
            | false =>
              go_wp2_with fail
              go_meet
              exact ⟨by rw [hb.out]; rfl, rfl⟩
            | true =>
              by_cases h1 : 1 < k
              · have h1i : (1 : Int) < (k : Int) := by omega
                have hb2 : Hid (bad = true) := Lib.hid (by rw [hb.out]; simp [h1])
                replace h1 := Lib.hid h1
                clear hb e1
                go_wp2_with fail
                go_meet
                exact ⟨by rw [hb2.out], rfl⟩
              · have h1i : ¬ (1 : Int) < (k : Int) := by omega
                have hb2 : Hid (bad = q) := Lib.hid (by rw [hb.out]; simp [h1])
                replace h1 := Lib.hid h1
                clear hb e1
                go_wp2_with fail
                go_meet
                exact ⟨by rw [hb2.out, decide_eq_false (by have := h1.out; omega : ¬ (1 : Int) < (k : Int))]; rfl, rfl⟩
      case rest =>
        obtain ⟨rfl, hw⟩ := hcut
        obtain rfl := hw.symm
        cases bad with
        | true =>
          have hno : numO l = none := num_no hs.out (fun ⟨h1, h2, u, h3, h4, _⟩ => by
            have hb := hbad.out
            rw [eq_comm, Bool.or_eq_true, Bool.or_eq_true, decide_eq_true_eq, decide_eq_true_eq, Bool.and_eq_true, decide_eq_true_eq, Bool.or_eq_true, decide_eq_true_eq] at hb
            rcases hb with (hb | hb) | ⟨hb, hb2⟩
            · exact h1.1 hb
            · have := hk.out; omega
            · have hm := h1.2 hb
              rcases hb2 with hb2 | hb2
              · have := hk.out; rw [hm] at this; simp at this; omega
              · rw [hm] at h3
                have := (h4 hb2).1
                have e : digs 0 [48] = some 0 := rfl
                rw [e] at h3
                injection h3 with h3
                omega)
          clear hbad
          replace hno := Lib.hid hno
          go_wp2_with fail
          go_ret2
          exact ⟨NumAns.no hno.out, rfl⟩
        | false =>
          have hcan : canon m ∧ k ≤ 19 ∧ (q = true → m ≠ [48]) := by
            have hb := hbad.out
            rw [eq_comm, Bool.or_eq_false_iff, Bool.or_eq_false_iff, decide_eq_false_iff_not, decide_eq_false_iff_not, Bool.and_eq_false_iff, decide_eq_false_iff_not, Bool.or_eq_false_iff, decide_eq_false_iff_not] at hb
            obtain ⟨⟨h1, h2⟩, h3⟩ := hb
            refine ⟨⟨h1, fun h => ?_⟩, by omega, fun hq e => ?_⟩
            · rcases h3 with h3 | ⟨h3, _⟩
              · exact absurd h h3
              · have := hk.out
                match m, h, h1 with
                | [c], h, _ => simp at h; rw [h]
                | _ :: _ :: _, _, _ => simp at this; omega
            · rcases h3 with h3 | ⟨_, h3⟩
              · rw [e] at h3; exact h3 rfl
              · rw [hq] at h3; cases h3
          replace hcan := Lib.hid hcan
          clear hbad
          have hk19 : k ≤ 19 := hcan.out.2.1
          go_wp2_with fail
          go_loopw [5, 6] (fun v5 v6 wr => ∃ (i u : Nat), v5 = .int .u64 u ∧ v6 = .int .i64 i ∧ i ≤ k ∧ wr = w ∧ Hid (digs 0 m = digs u (m.drop i) ∧ u < 10 ^ i)) (fun _ v6 _ => k - (RowKit.intOf v6).toNat)
          case atStart => exact ⟨0, 0, rfl, rfl, by omega, rfl, Lib.hid ⟨rfl, by decide⟩⟩
          case round =>
            obtain ⟨i, u, rfl, rfl, hi, rfl, hd⟩ := hrel
            by_cases hlt : i < k
            · have hlt' : (i : Int) < (k : Int) := by omega
              have hi0 : (0 : Int) ≤ (i : Int) := by omega
              have hit : ((i : Int)).toNat = i := by omega
              have wi1 : IntKind.i64.wrap ((i : Int) + 1) = (i : Int) + 1 := IntWalk.i64_in _ ⟨by omega, by omega⟩
              have hil : i < m.length := by have := hk.out; omega
              have hu18 := ten_18 hd.out.2 (by omega)
              obtain ⟨d, hdd, hdd'⟩ : ∃ d : Nat, Hid (d = m[i].toNat) ∧ d = m[i].toNat := ⟨_, Lib.hid rfl, rfl⟩
              have hd255 : d < 256 := by rw [hdd']; exact UInt8.toNat_lt _
              have hx : ∀ h : i < (S m).size, ((S m)[i]'h).toNat = d := fun h => by rw [S_get, hdd']
              have hstep : digs 0 m = if 48 ≤ d ∧ d ≤ 57 then digs (u * 10 + (d - 48)) (m.drop (i + 1)) else none := by
                rw [hd.out.1, List.drop_eq_getElem_cons hil, digs, ← hdd']
              clear hdd'
              by_cases hdig : 48 ≤ d ∧ d ≤ 57
              · rw [if_pos hdig] at hstep
                have d1 : ¬ (d : Int) < 48 := by omega
                have d2 : ¬ (57 : Int) < (d : Int) := by omega
                have w1 : IntKind.u64.wrap ((u : Int) * 10) = (u : Int) * 10 := by rw [IntKind.wrap_u64]; omega
                have w2 : IntKind.u8.wrap ((d : Int) - 48) = ((d - 48 : Nat) : Int) := by rw [IntKind.wrap_u8]; omega
                have w3 : IntKind.u64.wrap ((d - 48 : Nat) : Int) = ((d - 48 : Nat) : Int) := by rw [IntKind.wrap_u64]; omega
                have w4 : IntKind.u64.wrap ((u : Int) * 10 + ((d - 48 : Nat) : Int)) = ((u * 10 + (d - 48) : Nat) : Int) := by rw [IntKind.wrap_u64]; omega
                have hlast : u * 10 + (d - 48) < 10 ^ (i + 1) := by rw [Nat.pow_succ]; have := hd.out.2; omega
                replace hstep := Lib.hid hstep
                replace hdig := Lib.hid hdig
                replace hlast := Lib.hid hlast
                replace hil := Lib.hid hil
                generalize hdv : d - 48 = e at *
                clear hdv
                generalize hnu : u * 10 + e = nu at *
                clear hnu
                go_wp2_with fail
                exact ⟨⟨i + 1, nu, rfl, by go_num, by omega, trivial, Lib.hid ⟨hstep.out, hlast.out⟩⟩, by simp [RowKit.intOf]; omega⟩
              · rw [if_neg hdig] at hstep
                have hno : numO l = none := num_no hs.out (fun ⟨_, _, u, h3, _⟩ => by rw [hstep] at h3; cases h3)
                replace hno := Lib.hid hno
                replace hstep := Lib.hid hstep
                replace hil := Lib.hid hil
                by_cases d1 : d < 48
                · have d1i : (d : Int) < 48 := by omega
                  replace hdig := Lib.hid hdig
                  go_wp2_with fail
                  go_ret2
                  exact ⟨NumAns.no hno.out, rfl⟩
                · have d1i : ¬ (d : Int) < 48 := by omega
                  have d2 : (57 : Int) < (d : Int) := by omega
                  replace hdig := Lib.hid hdig
                  go_wp2_with fail
                  go_ret2
                  exact ⟨NumAns.no hno.out, rfl⟩
            · have hik : i = k := by omega
              subst hik
              have hdd := hd.out.1
              rw [List.drop_of_length_le (by rw [← hk.out]; exact Nat.le_refl _)] at hdd
              replace hdd : Hid (digs 0 m = some u) := Lib.hid hdd
              have hj0 : ¬ ((i : Int) < (i : Int)) := by omega
              have hu19 := ten_19 hd.out.2 hk19
              by_cases g1 : 9223372036854775808 < u
              · have hno : numO l = none := num_no hs.out (fun ⟨_, _, u2, h3, h4, h5⟩ => by
                  rw [hdd.out] at h3
                  injection h3 with h3
                  cases q with
                  | true => have := h4 rfl; omega
                  | false => have := h5 rfl; omega)
                have g1i : (9223372036854775808 : Int) < (u : Int) := by omega
                replace hno := Lib.hid hno
                replace g1 := Lib.hid g1
                go_wp2_with fail
                go_ret2
                exact ⟨NumAns.no hno.out, rfl⟩
              · have g1i : ¬ (9223372036854775808 : Int) < (u : Int) := by omega
                cases q with
                | true =>
                  have hpos : 0 < u := by
                    rcases Nat.eq_zero_or_pos u with h | h
                    · have := dec_digs hcan.out.1 hdd.out
                      rw [h] at this
                      exact absurd (by rw [← this]; simp [decDigits]) (hcan.out.2.2 rfl)
                    · exact h
                  have hyes := num_yes hs.out hcan.out.1 hdd.out (fun _ => ⟨hpos, by omega⟩) (fun h => by cases h)
                  rw [if_pos rfl] at hyes
                  replace hyes := Lib.hid hyes
                  have w1 : IntKind.u64.wrap (-(u : Int)) = 18446744073709551616 - (u : Int) := by rw [IntKind.wrap_u64]; omega
                  have w2 : IntKind.i64.wrap (18446744073709551616 - (u : Int)) = -(u : Int) := by rw [IntKind.wrap_i64]; omega
                  by_cases g2 : u = 9223372036854775808
                  · have g2b : ((u : Int) == 9223372036854775808) = true := by simp; omega
                    replace g2 := Lib.hid g2
                    replace g1 := Lib.hid g1
                    go_wp2_with fail
                    go_ret2
                    exact ⟨NumAns.yes hyes.out, rfl⟩
                  · have g2b : ((u : Int) == 9223372036854775808) = false := by simp; omega
                    replace g2 := Lib.hid g2
                    replace g1 := Lib.hid g1
                    go_wp2_with fail
                    go_ret2
                    exact ⟨NumAns.yes hyes.out, rfl⟩
                | false =>
                  by_cases g2 : u = 9223372036854775808
                  · have hno : numO l = none := num_no hs.out (fun ⟨_, _, u2, h3, h4, h5⟩ => by
                      rw [hdd.out] at h3
                      injection h3 with h3
                      have := h5 rfl; omega)
                    replace hno := Lib.hid hno
                    have g2b : ((u : Int) == 9223372036854775808) = true := by simp; omega
                    replace g2 := Lib.hid g2
                    replace g1 := Lib.hid g1
                    go_wp2_with fail
                    go_ret2
                    exact ⟨NumAns.no hno.out, rfl⟩
                  · have g2b : ((u : Int) == 9223372036854775808) = false := by simp; omega
                    have hyes := num_yes hs.out hcan.out.1 hdd.out (fun h => by cases h) (fun _ => by omega)
                    simp only [Bool.false_eq_true, if_false] at hyes
                    replace hyes := Lib.hid hyes
                    have w2 : IntKind.i64.wrap (u : Int) = (u : Int) := by rw [IntKind.wrap_i64]; omega
                    replace g2 := Lib.hid g2
                    replace g1 := Lib.hid g1
                    go_wp2_with fail
                    go_ret2
                    exact ⟨NumAns.yes hyes.out, rfl⟩
end Go.Proofs.YtkeiehgojclecaaDoor
