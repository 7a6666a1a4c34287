/- Numbers and floats as they are written and read: plain. -/
import Derived.Test.YtkeiehgojclecaaDoorScrP

namespace Go.Proofs.YtkeiehgojclecaaDoor

open Go.Lib

/-- What decimal digits spell. -/
def digs (acc : Nat) : List UInt8 → Option Nat
  | [] => some acc
  | c :: r => if 48 ≤ c.toNat ∧ c.toNat ≤ 57 then digs (acc * 10 + (c.toNat - 48)) r else none
theorem digs_append (l m : List UInt8) (acc : Nat) : digs acc (l ++ m) = (digs acc l).bind fun a => digs a m := by
  induction l generalizing acc with
  | nil => rfl
  | cons c r ih =>
    simp only [List.cons_append, digs]
    split
    · exact ih _
    · rfl
theorem toNat48 {d : Nat} (h : d < 10) : (UInt8.ofNat (48 + d)).toNat = 48 + d := by
  rw [UInt8.toNat_ofNat', Nat.mod_eq_of_lt (by omega)]
theorem digs_dec (u : Nat) : digs 0 (decDigits u) = some u := by
  induction u using Nat.strongRecOn with
  | _ u ih =>
    rw [decDigits]
    split
    · rename_i h
      simp only [digs, toNat48 h]
      rw [if_pos (by omega)]
      congr 1; omega
    · rename_i h
      have h1 : u % 10 < 10 := Nat.mod_lt _ (by decide)
      rw [digs_append, ih (u / 10) (by omega)]
      simp only [Option.bind_some, digs, toNat48 h1]
      rw [if_pos (by omega)]
      congr 1; omega
theorem dec_ne (u : Nat) : decDigits u ≠ [] := by
  rw [decDigits]; split <;> simp
/-- No nought ahead, but of nought itself. -/
def canon (l : List UInt8) : Prop := l ≠ [] ∧ (l.head? = some 48 → l = [48])
theorem dec_head (u : Nat) : canon (decDigits u) := by
  refine ⟨dec_ne u, ?_⟩
  induction u using Nat.strongRecOn with
  | _ u ih =>
    intro h
    rw [decDigits] at h ⊢
    split at h
    · rename_i hu
      simp only [hu, dite_true] at h ⊢
      simpa using h
    · rename_i hu
      exfalso
      have hne := dec_ne (u / 10)
      obtain ⟨c, r, hc⟩ := List.exists_cons_of_ne_nil hne
      rw [hc] at h
      simp only [List.cons_append, List.head?_cons, Option.some.injEq] at h
      have := ih (u / 10) (by omega) (by rw [hc]; simp [h])
      have hd := digs_dec (u / 10)
      rw [this] at hd
      simp [digs] at hd
      omega
theorem digs_zero_pos {l : List UInt8} {u acc : Nat} (h : digs acc l = some u) (ha : 0 < acc) : 0 < u := by
  induction l generalizing acc with
  | nil => simp [digs] at h; omega
  | cons c r ih =>
    simp only [digs] at h
    split at h
    · exact ih h (by omega)
    · cases h
theorem dec_snoc {l : List UInt8} {a : Nat} {c : UInt8} (hl : decDigits a = l) (ha : 0 < a) (hc : 48 ≤ c.toNat ∧ c.toNat ≤ 57) : decDigits (a * 10 + (c.toNat - 48)) = l ++ [c] := by
  rw [decDigits, dif_neg (by omega), show (a * 10 + (c.toNat - 48)) / 10 = a by omega, hl, show (a * 10 + (c.toNat - 48)) % 10 = c.toNat - 48 by omega, show 48 + (c.toNat - 48) = c.toNat by omega, UInt8.ofNat_toNat]
theorem dec_digs_from {r l : List UInt8} {a u : Nat} (hl : decDigits a = l) (ha : 0 < a) (h : digs a r = some u) : decDigits u = l ++ r := by
  induction r generalizing l a with
  | nil => simp [digs] at h; subst h; simpa using hl
  | cons c r ih =>
    simp only [digs] at h
    split at h
    · rename_i hc
      have := ih (dec_snoc hl ha hc) (by omega) h
      rw [this]; simp
    · cases h
theorem dec_digs {l : List UInt8} {u : Nat} (hc : canon l) (h : digs 0 l = some u) : decDigits u = l := by
  obtain ⟨hn, hz⟩ := hc
  cases l with
  | nil => exact absurd rfl hn
  | cons c r =>
    simp only [digs] at h
    split at h
    · rename_i hd
      have h1 : decDigits (c.toNat - 48) = [c] := by
        rw [decDigits, dif_pos (by omega), show 48 + (c.toNat - 48) = c.toNat by omega, UInt8.ofNat_toNat]
      by_cases h0 : c = 48
      · have := hz (by simp [h0])
        simp only [List.cons.injEq] at this
        obtain ⟨_, rfl⟩ := this
        simp [digs] at h
        subst h
        simpa using h1
      · have hpos : 0 < c.toNat - 48 := by
          rcases Nat.eq_or_lt_of_le hd.1 with e | e
          · exfalso; apply h0
            apply UInt8.toNat_inj.1
            rw [← e]; rfl
          · omega
        exact dec_digs_from (a := 0 * 10 + (c.toNat - 48)) (l := [c]) (by simpa using h1) (by omega) h
    · cases h
theorem parse10_digs {l : List UInt8} {acc u : Nat} (h : parseUint10 acc l = .ok u) : digs acc l = some u := by
  induction l generalizing acc with
  | nil => simp only [parseUint10, NumEnd.ok.injEq] at h; simp [digs, h]
  | cons c r ih =>
    simp only [parseUint10] at h
    split at h
    · rename_i hc
      split at h
      · cases h
      · split at h
        · cases h
        · simp only [digs, if_pos hc]; exact ih h
    · cases h
theorem digs_le {l : List UInt8} {acc u : Nat} (h : digs acc l = some u) : acc ≤ u := by
  induction l generalizing acc with
  | nil => simp [digs] at h; omega
  | cons c r ih =>
    simp only [digs] at h
    split at h
    · have := ih h; omega
    · cases h
theorem digs_parse10 {l : List UInt8} {acc u : Nat} (h : digs acc l = some u) (hu : u < 18446744073709551616) : parseUint10 acc l = .ok u := by
  induction l generalizing acc with
  | nil => simp [digs] at h; simp [parseUint10, h]
  | cons c r ih =>
    simp only [digs] at h
    split at h
    · rename_i hc
      have := digs_le h
      simp only [parseUint10, if_pos hc, if_neg (by omega : ¬ 1844674407370955162 ≤ acc), if_neg (by omega : ¬ 18446744073709551616 ≤ acc * 10 + (c.toNat - 48))]
      exact ih h
    · cases h
/-- The number that a word is. -/
def numO (l : List UInt8) : Option Int := match parseIntB 64 l with
  | .ok v => if itoa v = l then some v else none
  | _ => none
theorem i64_bounds {l : List UInt8} {v : Int} (h : parseIntB 64 l = .ok v) : -9223372036854775808 ≤ v ∧ v ≤ 9223372036854775807 := by
  have := parseIntB_bounds h
  have e : (2 : Nat) ^ (64 - 1) = 9223372036854775808 := by decide
  rw [e] at this
  omega
theorem dec_first (u : Nat) : ∃ c r, decDigits u = c :: r ∧ 48 ≤ c.toNat ∧ c.toNat ≤ 57 := by
  obtain ⟨c, r, h⟩ := List.exists_cons_of_ne_nil (dec_ne u)
  have := digs_dec u
  rw [h] at this
  simp only [digs] at this
  split at this
  · rename_i hc; exact ⟨c, r, h, hc.1, hc.2⟩
  · cases this
theorem parse_itoa {v : Int} (h : -9223372036854775808 ≤ v ∧ v ≤ 9223372036854775807) : parseIntB 64 (itoa v) = .ok v := by
  rw [parseIntB_64]
  unfold itoa
  by_cases hv : v < 0
  · rw [if_pos hv]
    have hp := digs_parse10 (digs_dec v.natAbs) (by omega)
    have e45 : UInt8.toNat 45 = 45 := rfl
    simp only [atoiAll, parseMag, e45]
    simp only [or_true, if_true, not_true_eq_false, false_and, if_false, true_and]
    rw [if_neg (dec_ne _), hp]
    simp only []
    rw [if_neg (by omega)]
    congr 1; omega
  · rw [if_neg hv]
    have hp := digs_parse10 (digs_dec v.toNat) (by omega)
    obtain ⟨c, r, hcr, h1, h2⟩ := dec_first v.toNat
    rw [hcr] at hp ⊢
    simp only [atoiAll, parseMag]
    rw [if_neg (by omega : ¬ (c.toNat = 43 ∨ c.toNat = 45)), if_neg (by simp), hp]
    simp only []
    rw [if_neg (by omega), if_neg (by omega), if_neg (by omega)]
    congr 1; omega
theorem numO_iff (l : List UInt8) (v : Int) : numO l = some v ↔ l = itoa v ∧ -9223372036854775808 ≤ v ∧ v ≤ 9223372036854775807 := by
  unfold numO
  constructor
  · intro h
    split at h
    · rename_i u hu
      split at h
      · rename_i he
        injection h with h
        subst h
        exact ⟨he.symm, i64_bounds hu⟩
      · cases h
    · cases h
  · rintro ⟨rfl, h1⟩
    rw [parse_itoa h1]
    simp
/-- A number of 16 digits of base 16. -/
def pad16 (u : Nat) : List UInt8 := List.replicate (16 - (hexL u).length) 48 ++ hexL u
theorem hexd_cases {d : Nat} (h : d < 16) : (48 ≤ (hexd d).toNat ∧ (hexd d).toNat ≤ 57 ∧ (hexd d).toNat - 48 = d) ∨ (97 ≤ (hexd d).toNat ∧ (hexd d).toNat ≤ 102 ∧ (hexd d).toNat - 87 = d) := by
  rcases (by omega : d = 0 ∨ d = 1 ∨ d = 2 ∨ d = 3 ∨ d = 4 ∨ d = 5 ∨ d = 6 ∨ d = 7 ∨ d = 8 ∨ d = 9 ∨ d = 10 ∨ d = 11 ∨ d = 12 ∨ d = 13 ∨ d = 14 ∨ d = 15) with rfl | rfl | rfl | rfl | rfl | rfl | rfl | rfl | rfl | rfl | rfl | rfl | rfl | rfl | rfl | rfl <;> decide
theorem hexP_append (l m : List UInt8) (acc : Nat) : hexP acc (l ++ m) = (hexP acc l).bind fun a => hexP a m := by
  induction l generalizing acc with
  | nil => rfl
  | cons c r ih =>
    simp only [List.cons_append, hexP]
    split
    · split
      · exact ih _
      · rfl
    · split
      · split
        · exact ih _
        · rfl
      · rfl
theorem hexP_one {a d : Nat} (h : d < 16) (h2 : a * 16 + d < 18446744073709551616) : hexP a [hexd d] = some (a * 16 + d) := by
  rcases hexd_cases h with ⟨h3, h4, h5⟩ | ⟨h3, h4, h5⟩
  · simp only [hexP, if_pos (And.intro h3 h4), h5, if_pos h2]
  · simp only [hexP]
    rw [if_neg (by omega), if_pos ⟨h3, h4⟩, h5, if_pos h2]
theorem hexP_hexL (u : Nat) (hu : u < 18446744073709551616) : hexP 0 (hexL u) = some u := by
  induction u using Nat.strongRecOn with
  | _ u ih =>
    by_cases h : u < 16
    · rw [hexL_lt h, hexP_one h (by omega)]; congr 1; omega
    · have hm : u % 16 < 16 := Nat.mod_lt _ (by decide)
      rw [hexL_ge h, hexP_append, ih (u / 16) (by omega) (by omega), Option.bind_some, hexP_one hm (by omega)]
      congr 1; omega
theorem hexP_zeros (k : Nat) (l : List UInt8) : hexP 0 (List.replicate k 48 ++ l) = hexP 0 l := by
  induction k with
  | zero => rfl
  | succ k ih =>
    rw [List.replicate_succ, List.cons_append, hexP, if_pos (by decide), if_pos (by decide)]
    exact ih
theorem hexP_pad (u : Nat) (hu : u < 18446744073709551616) : hexP 0 (pad16 u) = some u := by
  unfold pad16; rw [hexP_zeros, hexP_hexL u hu]
theorem hexL_le16 {u : Nat} (hu : u < 18446744073709551616) : (hexL u).length ≤ 16 := hexL_length 15 u (by simpa using hu)
theorem pad16_length {u : Nat} (hu : u < 18446744073709551616) : (pad16 u).length = 16 := by
  have := hexL_le16 hu
  unfold pad16; rw [List.length_append, List.length_replicate]; omega
/-- A float as it is written, and as it is read. -/
def wrL (x : Nat) : List UInt8 := if Fl.nan x = true then [110, 97, 110] else pad16 x
def nanV : Nat := 9221120237041090561
def rdO (l : List UInt8) : Option Nat := if l = [110, 97, 110] then some nanV else (hexP 0 l).bind fun u => if wrL u = l then some u else none
theorem rdO_iff (l : List UInt8) (x : Nat) : rdO l = some x ↔ (l = [110, 97, 110] ∧ x = nanV) ∨ (x < 18446744073709551616 ∧ Fl.nan x = false ∧ l = pad16 x) := by
  unfold rdO
  have h16 : ∀ u, u < 18446744073709551616 → pad16 u ≠ [110, 97, 110] := fun u hu e => by
    have := pad16_length hu
    rw [e] at this; simp at this
  by_cases h : l = [110, 97, 110]
  · rw [if_pos h]
    constructor
    · intro e; injection e with e; exact .inl ⟨h, e.symm⟩
    · rintro (⟨_, e⟩ | ⟨h1, _, h3⟩)
      · rw [e]
      · exact absurd (h3 ▸ h) (h16 x h1)
  · rw [if_neg h]
    constructor
    · intro e
      obtain ⟨u, hu, e⟩ := Option.bind_eq_some_iff.1 e
      split at e
      · rename_i hw
        injection e with e
        subst e
        right
        have hlt : ∀ (l : List UInt8) (acc r : Nat), acc < 18446744073709551616 → hexP acc l = some r → r < 18446744073709551616 := by
          intro l
          induction l with
          | nil => intro acc r ha h; simp [hexP] at h; omega
          | cons c t ih =>
            intro acc r ha h
            simp only [hexP] at h
            split at h
            · split at h
              · exact ih _ _ (by assumption) h
              · cases h
            · split at h
              · split at h
                · exact ih _ _ (by assumption) h
                · cases h
              · cases h
        unfold wrL at hw
        split at hw
        · exact absurd hw.symm h
        · rename_i hn
          exact ⟨hlt _ _ _ (by decide) hu, by simpa using hn, hw.symm⟩
      · cases e
    · rintro (⟨e, _⟩ | ⟨h1, h2, rfl⟩)
      · exact absurd e h
      · rw [hexP_pad x h1]
        simp [wrL, h2]
end Go.Proofs.YtkeiehgojclecaaDoor
