/- The reference's model: NewModel, Used, Take. -/
import Derived.Test.YtfknaheijidhcaaMdlF

import Derived.Test.YtfknaheijidhcaaMdlL

import Derived.Deep.Onto

import Derived.Deep.RegionLaw

namespace Go.Proofs.Ytfknaheijidhcaa

open Go.RowKit

attribute [local go_sem ↓] Go.wp_at_zero Go.wp_at_succ

attribute [local go_sem high] run_cut_l run_cut_h run_cut_lh

def capW (n : Int) : Int := if n < 0 ∨ 4096 < n then 0 else n
theorem capW_bd (n : Int) : 0 ≤ capW n ∧ capW n ≤ 4096 := by unfold capW; split <;> omega
theorem usedB_snoc (l : List Bk) (b : Bk) : usedB (l ++ [b]) = usedB l + b.n := by simp [usedB]
theorem okK.take {W lo : Int} {l : List Bk} (h : okK W lo l) (k : Nat) : okK W lo (l.take k) := by
  induction l generalizing lo k with
  | nil => simpa using h
  | cons b l ih =>
    cases k with
    | zero => exact h.le
    | succ k => exact ⟨h.1, h.2.1, ih h.2.2 k⟩
theorem usedB_take {W : Int} {l : List Bk} (h : okK W 0 l) (k : Nat) : 0 ≤ usedB (l.take k) ∧ usedB (l.take k) ≤ W := by
  have := usedB_le (h.take k)
  omega
theorem Only.below' {F : Nat → Prop} {B : Nat} {a w w' : World} (h : Below B a w) (ho : Only F w w') (hB : B ≤ w.heap.size) (hF : ∀ k, F k → B ≤ k) : Below B a w' := h.trans (ho.below hB hF)
theorem Mdl.foot_ge {T E : TypeId} {B s : Nat} {w : World} {sl : Value} {W : Int} {l : List Bk} (h : Mdl T E B w s sl W l) : ∀ k, foot s sl k → B ≤ k := fun k hk => by
  rcases hk with rfl | hk
  · exact h.lies
  · exact (h.rowLt k hk).1
theorem infoRb : (Try.prog.info? 97).map (fun i => (i.zero, i.size, i.bytes)) = some (some (.agg #[.int .i64 0, .int .i64 0]), 2, 16) := by kernel_rfl
theorem Bk.one (b : Bk) : ∀ u ∈ b.cells, u.oneCell' = true := by
  intro u hu
  simp only [Bk.cells, List.mem_cons, List.not_mem_nil, or_false] at hu
  rcases hu with rfl | rfl <;> rfl
abbrev RM := Mdl 95 97
theorem rnew_any (n : Int) (w : World) : Calls Try.prog 33 #[.int .i64 n] w fun e w' => e = .returned (.pointer (some ⟨w.heap.size, 0, .none⟩)) ∧ Below w.heap.size w w' ∧ RM w.heap.size w' w.heap.size (.slice none 0 0) (capW n) [] := by
  have key : ∀ W : Int, W = capW n → RM w.heap.size (w.alloc (.cells #[.slice none 0 0, .int .i64 W] 95)) w.heap.size (.slice none 0 0) (capW n) [] := fun W e => by
    have := capW_bd n
    exact ⟨Nat.le_refl _, by rw [← e]; exact heap_alloc_new w _, ⟨rfl, .inl ⟨rfl, rfl⟩⟩, by simp [Value.ownBlock], by show (0 : Int) ≤ capW n; omega, by omega⟩
  by_cases h1 : n < 0
  · have k := key 0 (by unfold capW; rw [if_pos (.inl h1)])
    go_enter Try.func33, Try.ntmps33
    go_wp2
    go_ret
    exact ⟨rfl, (Below.refl _ _).alloc (Nat.le_refl _) _, k⟩
  · by_cases h2 : 4096 < n
    · have k := key 0 (by unfold capW; rw [if_pos (.inr h2)])
      have hd : decide (4096 < n) = true := decide_eq_true h2
      go_enter Try.func33, Try.ntmps33
      go_wp2
      go_ret
      exact ⟨rfl, (Below.refl _ _).alloc (Nat.le_refl _) _, k⟩
    · have k := key n (by unfold capW; rw [if_neg (by omega)])
      have hd : decide (4096 < n) = false := decide_eq_false h2
      go_enter Try.func33, Try.ntmps33
      go_wp2
      go_ret
      exact ⟨rfl, (Below.refl _ _).alloc (Nat.le_refl _) _, k⟩
set_option maxHeartbeats 1000000 in
theorem rused_any {B s : Nat} {w : World} {sl : Value} {W : Int} {l : List Bk} (h : RM B w s sl W l) :
    Calls Try.prog 35 #[.pointer (some ⟨s, 0, .none⟩)] w fun e w' => e = .returned (.int .i64 (usedB l)) ∧ Below w.heap.size w w' := by
  have c0 := h.cell0
  obtain ⟨ao, cap, rfl, hcap, hcm, hrow⟩ := h.rd.nth
  have hs := h.small
  have hlen := h.len
  obtain ⟨n, hn, hn'⟩ : ∃ n, Hid (n = l.length) ∧ n = l.length := ⟨_, Lib.hid rfl, rfl⟩
  rw [← hn'] at c0 hcap hlen
  clear hn'
  go_enter Try.func35, Try.ntmps35
  go_wp2
  go_loopw [3, 4] (fun vs vi wr => ∃ i : Nat, i ≤ n ∧ vi = .int .i64 i ∧ vs = .int .i64 (usedB (l.take i)) ∧ Below w.heap.size w wr) (fun _ vi _ => n - (intOf vi).toNat)
  case atStart => exact ⟨0, Nat.zero_le _, rfl, by simp [usedB], Below.refl _ _⟩
  case round =>
    obtain ⟨i, hi, rfl, rfl, hbr⟩ := hrel
    have d0 := keepF hbr _ _ _ c0
    by_cases hlt : i < n
    · have hil : i < l.length := hn.out ▸ hlt
      obtain ⟨b, off, rfl, hb, hc⟩ := hrow (fun e => by rw [e] at hil; simp at hil)
      obtain ⟨x0, x1⟩ := hc i hil
      replace x1 := keepF hbr _ _ _ x1
      have hu := usedB_take h.ok i
      have hu2 := usedB_take h.ok (i + 1)
      have hus : usedB (l.take (i + 1)) = usedB (l.take i) + l[i].n := by rw [List.take_succ_eq_append_getElem hil, usedB_snoc]
      rw [hus] at hu2
      replace hus := Lib.hid hus
      generalize l[i].n = bn at *
      generalize usedB (l.take i) = U at *
      clear hc hrow x0
      go_wp2
      exact ⟨⟨i + 1, by omega, by go_num, by rw [hus.out], hbr⟩, by simp [intOf]; omega⟩
    · have hie : i = n := by omega
      subst hie
      have hj0 : ¬ ((i : Int) < (i : Int)) := by omega
      have hfin : Hid (usedB l = usedB (l.take i)) := by
        show _ = _
        rw [List.take_of_length_le (by rw [← hn.out]; exact Nat.le_refl _)]
      clear hlt
      go_wp2
      go_ret
      exact ⟨ret_int hfin.out.symm, hbr⟩
theorem ownNil (E : TypeId) (sz : Nat) (B : Nat) (w : World) : w.ownsRow B E sz (.slice none 0 0) 0 [] := ⟨by simp, .inl ⟨rfl, rfl⟩⟩
theorem cut_front {w : World} {ao : Option Addr} {cap n : Nat} {l : List Bk} (r : RdK w (.slice ao n cap) l) (hn : n = l.length) (i : Nat) (hi : i ≤ n) : RdS w 2 (cutV ao 0 i cap 2) i (flatB (l.take i)) := by
  subst hn
  have := RdS.cut r (l := 0) (h := i) (Nat.zero_le _) hi
  rwa [Nat.zero_mul, List.drop_zero, Nat.sub_zero, flatB_take] at this
theorem cut_back {w : World} {ao : Option Addr} {cap n : Nat} {l : List Bk} (r : RdK w (.slice ao n cap) l) (hn : n = l.length) (i : Nat) (hi : i ≤ n) : RdS w 2 (cutV ao i n cap 2) (n - i) (flatB (l.drop i)) := by
  subst hn
  have := RdS.cut r (l := i) (h := l.length) hi (Nat.le_refl _)
  rwa [flatB_drop, List.take_of_length_le (by rw [flatB_length, List.length_drop]; exact Nat.le_refl _)] at this
/-- The slice of a model set anew, by a row that was made behind w. -/
theorem Mdl.reset {T E : TypeId} {B s : Nat} {w w' : World} {sl v : Value} {W : Int} {l l' : List Bk} {N : Nat} (h : Mdl T E B w s sl W l) (hb : Below w.heap.size w w') (ho : w'.ownsRow w.heap.size E 2 v N (flatB l')) (hN : l'.length = N) (hok : okK W 0 l') :
    Mdl T E B (w'.setCell ⟨s, 0, .none⟩ v) s v W l' ∧ Only (foot s sl) w (w'.setCell ⟨s, 0, .none⟩ v) ∧ ∀ k, foot s v k → foot s sl k ∨ w.heap.size ≤ k := by
  subst hN
  have hlt := h.lt
  have hh : w'.heap[s]? = some (.cells #[sl, .int .i64 W] T (0, 0)) := (hb.block s hlt).trans h.head
  have hv : ∀ k, v.ownBlock = some k → w.heap.size ≤ k := fun k hk => (ho.lt k hk).1
  refine ⟨⟨h.lies, by rw [heap_setCell_same w' s 0 _ _ _ hh]; rfl, ?_, fun e => by have := hv s e; omega, hok, h.small⟩, (Only.of_below hb).setCell (.inl (.inl rfl)) _, fun k hk => ?_⟩
  · refine World.ownsRow.mono (base := w.heap.size) (ownsRow_of_blocks ho fun k hk => heap_setCell_other w' ⟨s, 0, .none⟩ k _ (fun e => ?_)) (by have := h.lies; omega)
    have := hv k hk
    simp at e
    omega
  · rcases hk with rfl | hk
    · exact .inl (.inl rfl)
    · exact .inr (hv k hk)
theorem grown_nil {w w' : World} (h : w.grownBy w' (Value.slice none 0 0).ownBlock) : Below w.heap.size w w' := ⟨h.os, h.tape, h.output, h.size, fun k hk => h.block k hk (fun e => nomatch e)⟩
/-- Blocks ahead of a place: so many begin below it. -/
theorem putB_flat {l : List Bk} {at' n : Int} {k : Nat} (hk : posB at' l = k) : flatB (putB l at' n) = (flatB (l.take k) ++ Bk.cells ⟨at', n⟩) ++ flatB (l.drop k) := by
  unfold putB
  rw [hk, flatB_append]
  show _ ++ flatB ([⟨at', n⟩] ++ l.drop k) = _
  rw [flatB_append, List.append_assoc]
  rfl
theorem any_get {l : List Bk} {f : Bk → Bool} (i : Nat) (hi : i < l.length) (h : f l[i] = true) : l.any f = true := List.any_eq_true.2 ⟨_, List.getElem_mem hi, h⟩
theorem any_none {l : List Bk} {f : Bk → Bool} (h : ∀ i (hi : i < l.length), f l[i] = false) : l.any f = false := by
  rw [List.any_eq_false]
  intro b hb
  obtain ⟨i, hi, rfl⟩ := List.getElem_of_mem hb
  rw [h i hi]; simp
set_option maxRecDepth 100000 in
set_option maxHeartbeats 4000000 in
theorem rtake_any {B s : Nat} {w : World} {sl : Value} {W : Int} {l : List Bk} (h : RM B w s sl W l) (at' n : Int) (ha0 : -9223372036854775808 ≤ at') (ha1 : at' ≤ 9223372036854775807) (hn0 : -9223372036854775808 ≤ n) (hn1 : n ≤ 9223372036854775807) :
    Calls Try.prog 34 #[.pointer (some ⟨s, 0, .none⟩), .int .i64 at', .int .i64 n] w fun e w' => e = .returned (.bool (takeOk W l at' n)) ∧ ∃ sl', RM B w' s sl' W (takeB W l at' n) ∧ Only (foot s sl) w w' ∧ ∀ k, foot s sl' k → foot s sl k ∨ w.heap.size ≤ k := by
  have c1 := h.cell1
  have hW0 : 0 ≤ W := h.ok.le
  have hWs := h.small
  by_cases hf : fitsK W at' n = true
  case neg =>
    have hok : takeOk W l at' n = false := by unfold takeOk; rw [Bool.eq_false_iff.2 hf]; rfl
    have htk : takeB W l at' n = l := by unfold takeB; rw [if_neg (by rw [hok]; simp)]
    rw [hok, htk]
    have hcase : n < 1 ∨ (1 ≤ n ∧ (at' < 0 ∨ (0 ≤ at' ∧ (W < at' ∨ (at' ≤ W ∧ W - at' < n))))) := by
      simp only [fitsK, decide_eq_true_eq] at hf; omega
    clear hf
    rcases hcase with e1 | ⟨e1, e2 | ⟨e2, e3 | ⟨e3, e4⟩⟩⟩
    all_goals
      go_enter Try.func34, Try.ntmps34
      go_wp2
      go_ret
      exact ⟨rfl, _, h, Only.refl _ _, fun k hk => .inl hk⟩
  case pos =>
    have hfit := hf
    simp only [fitsK, decide_eq_true_eq] at hfit
    obtain ⟨f1, f2, f3, f4⟩ := hfit
    have htok : takeOk W l at' n = !l.any (fun b => meets b at' n) := by unfold takeOk; rw [hf]; rfl
    have c0 := h.cell0
    have hlts := h.lt
    have hmem := h.ok.mem
    have hsort := h.ok.lt
    have hokt := takeB_ok (at' := at') (n := n) h.ok
    have hput : takeOk W l at' n = true → takeB W l at' n = putB l at' n := takeB_eq
    have hkeep : takeOk W l at' n = false → takeB W l at' n = l := takeB_no
    generalize takeB W l at' n = lt at *
    generalize takeOk W l at' n = ok at *
    obtain ⟨ao, cap, rfl, hcap, hcm, hrow⟩ := h.rd.nth
    have hlen := h.len
    obtain ⟨m, hm, hm'⟩ : ∃ m, Hid (m = l.length) ∧ m = l.length := ⟨_, Lib.hid rfl, rfl⟩
    have hrd := h.rd
    rw [← hm'] at c0 hcap hlen hrd h ⊢
    clear hm' hf
    obtain ⟨i0, hi0, hz0, hz1, hz2⟩ := info_parts infoRb
    have hadd : IntKind.i64.wrap (at' + n) = at' + n := by rw [IntKind.wrap_i64]; omega
    have hsub : IntKind.i64.wrap (W - at') = W - at' := by rw [IntKind.wrap_i64]; omega
    replace htok := Lib.hid htok
    go_enter Try.func34, Try.ntmps34
    go_wp2
    go_loopw [7, 8, 9] (fun vk vi _ wr => ∃ i k : Nat, i ≤ m ∧ k ≤ i ∧ vi = .int .i64 i ∧ vk = .int .i64 k ∧ Hid (∀ j (hj : j < l.length), j < i → meets l[j] at' n = false) ∧ Hid (∀ j (hj : j < l.length), j < k → l[j].a < at') ∧ Hid (∀ j (hj : j < l.length), k ≤ j → j < i → at' ≤ l[j].a) ∧ Below w.heap.size w wr) (fun _ vi _ _ => m - (intOf vi).toNat)
    case atStart => exact ⟨0, 0, Nat.zero_le _, Nat.le_refl _, rfl, rfl, Lib.hid (fun j hj h => absurd h (Nat.not_lt_zero _)), Lib.hid (fun j hj h => absurd h (Nat.not_lt_zero _)), Lib.hid (fun j hj _ h => absurd h (Nat.not_lt_zero _)), Below.refl _ _⟩
    case round =>
      obtain ⟨i, k, hi, hki, rfl, rfl, hno, hbel, habv, hbr⟩ := hrel
      have d0 := keepF hbr _ _ _ c0
      have d1 := keepF hbr _ _ _ c1
      have hbs := hbr.size
      have d2 := fun o => keepF (hbr.alloc hbs o) _ _ _ c0
      have d3 := fun o => keepF ((hbr.drew).alloc hbs o) _ _ _ c0
      by_cases hlt : i < m
      · have hil : i < l.length := hm.out ▸ hlt
        obtain ⟨b, off, rfl, hb, hc⟩ := hrow (fun e => by rw [e] at hil; simp at hil)
        obtain ⟨x0, x1⟩ := hc i hil
        replace x0 := keepF hbr _ _ _ x0
        replace x1 := keepF hbr _ _ _ x1
        obtain ⟨g1, g2, g3⟩ := hmem _ (List.getElem_mem hil)
        have hii : (i : Int) < (m : Int) := by omega
        have hi0' : (0 : Int) ≤ (i : Int) := by omega
        have hadd2 : IntKind.i64.wrap (l[i].a + l[i].n) = l[i].a + l[i].n := by rw [IntKind.wrap_i64]; omega
        have hmt : meets l[i] at' n = true → l.any (fun b => meets b at' n) = true := any_get (f := fun b => meets b at' n) i hil
        have hno2 : meets l[i] at' n = false → ∀ j (hj : j < l.length), j < i + 1 → meets l[j] at' n = false := fun hx j hj h => by
          rcases Nat.lt_or_ge j i with h1 | h1
          · exact hno.out j hj h1
          · have : j = i := by omega
            subst this; exact hx
        have hbel2 : l[i].a < at' → ∀ j (hj : j < l.length), j < i + 1 → l[j].a < at' := fun hx j hj h => by
          rcases Nat.lt_or_ge j i with h1 | h1
          · have := hsort j i h1 hil
            have := (hmem _ (List.getElem_mem hj)).2.1
            omega
          · have : j = i := by omega
            subst this; exact hx
        have habv2 : at' ≤ l[i].a → ∀ j (hj : j < l.length), k ≤ j → j < i + 1 → at' ≤ l[j].a := fun hx j hj h h' => by
          rcases Nat.lt_or_ge j i with h1 | h1
          · exact habv.out j hj h h1
          · have : j = i := by omega
            subst this; exact hx
        have hmd : meets l[i] at' n = decide (l[i].a < at' + n ∧ at' < l[i].a + l[i].n) := rfl
        clear hc hrow
        generalize meets l[i] at' n = mt at *
        generalize l[i].a = ba at *
        generalize l[i].n = bn at *
        by_cases h1 : ba < at' + n
        · by_cases h2 : at' < ba + bn
          · have e1 : mt = true := by rw [hmd]; exact decide_eq_true ⟨h1, h2⟩
            have hany := hmt e1
            have hokF : ok = false := by rw [htok.out, hany]; rfl
            have hle := hkeep hokF
            subst hokF
            subst hle
            clear hmt hno2 hbel2 habv2 hmd hput hkeep e1 hany htok
            go_wp2
            go_ret
            exact ⟨rfl, _, h.below (hbr.alloc hbs _), Only.of_below (hbr.alloc hbs _), fun k hk => .inl hk⟩
          · have e1 : mt = false := by rw [hmd]; exact decide_eq_false (fun h => h2 h.2)
            have hno3 := Lib.hid (hno2 e1)
            by_cases h3 : ba < at'
            · have hbel3 := Lib.hid (hbel2 h3)
              clear hmt hno2 hbel2 habv2 hmd hput hkeep
              go_wp2
              exact ⟨⟨i + 1, i + 1, by omega, by omega, by go_num, by go_num, hno3, hbel3, Lib.hid (fun j hj h h' => by omega), hbr.alloc hbs _⟩, by simp [intOf]; omega⟩
            · omega
        · have e1 : mt = false := by rw [hmd]; exact decide_eq_false (fun h => h1 h.1)
          have hno3 := Lib.hid (hno2 e1)
          have h3 : ¬ ba < at' := by omega
          have habv3 := Lib.hid (habv2 (by omega))
          clear hmt hno2 hbel2 habv2 hmd hput hkeep
          go_wp2
          exact ⟨⟨i + 1, k, by omega, by omega, by go_num, rfl, hno3, hbel, habv3, hbr.alloc hbs _⟩, by simp [intOf]; omega⟩
      · have hie : i = m := by omega
        subst hie
        have hj0 : ¬ ((i : Int) < (i : Int)) := by omega
        have hpos : posB at' l = k := posB_unique at' l k (by have := hm.out; omega) (fun j hj hjl => hbel.out j hjl hj) (fun hk => habv.out k hk (Nat.le_refl _) (by have := hm.out; omega))
        have hany := any_none (l := l) (f := fun b => meets b at' n) (fun j hj => hno.out j hj (by have := hm.out; omega))
        have hokT : ok = true := by rw [htok.out, hany]; rfl
        have hle := hput hokT
        subst hokT
        have hgf := putB_flat (n := n) hpos
        rw [← hle] at hgf
        have hgn : lt.length = k + 1 + (i - k) := by rw [hle, putB_length, ← hm.out]; omega
        replace hgf := Lib.hid hgf
        replace hgn := Lib.hid hgn
        have hq1 := (cut_front hrd hm.out k hki).below hbr
        have hq2 := cut_back hrd hm.out k hki
        have hk0 : (0 : Int) ≤ (k : Int) := by omega
        have hkc : (k : Int) ≤ (cap : Int) := by omega
        have hkn : (k : Int) ≤ (i : Int) := by omega
        clear hno hbel habv hlt hle hany hpos hput hkeep htok hrow
        go_wp2
        go_region_law
          (first
            | (refine step_append_rd (by rfl) (.const (.slice none 0 0)) (.tmp 77) 93 (by rfl) w.heap.size 97 i0 _ 2 16 Try.underlying93 hi0 hz0 hz1 hz2 rfl (by omega) _ 0 [] (by rfl) (ownNil _ _ _ _)
                _ k (flatB (l.take k)) (by rfl) (by first | exact hq1.drew | exact hq1.drew.alloc _) (flatB_one _) (by simp only [maxLen]; omega) (by omega) (by first | exact hbs | (simp; omega)) ?_; intro v1 w1 hown1 hgrow1 hat1; have hbr1 := grown_belowS (by first | exact hbr.drew | exact (hbr.drew).alloc (by simpa using hbs) _) (ownNil 97 2 w.heap.size _) (by first | exact hbs | (simp; omega)) hgrow1; have hbs1 := hbr1.size; simp only [Nat.zero_add, List.nil_append] at hown1; have q1 := keepF hbr1 _ _ _ c0; have q5 := (fun o => keepF (hbr1.alloc hbs1 o) _ _ _ c0); have hx1 := grown_nil hgrow1)
            | (refine step_append_rd (by rfl) (.tmp 78) (.tmp 82) 93 (by rfl) w.heap.size 97 i0 _ 2 16 Try.underlying93 hi0 hz0 hz1 hz2 rfl (by omega) _ k (flatB (l.take k)) (by rfl) (by first | exact hown1 | exact hown1.alloc _)
                _ 1 (Bk.cells ⟨at', n⟩) (by rfl) (by first | exact RdS.new (cs := (Bk.cells ⟨at', n⟩).toArray) (t := 97) (sz := 2) (n := 1) (heap_alloc_new w1 _) rfl (by omega) | exact (RdS.new (cs := (Bk.cells ⟨at', n⟩).toArray) (t := 97) (sz := 2) (n := 1) (heap_alloc_new wr.drew _) rfl (by omega)).below hx1) (Bk.one _) (by simp only [maxLen]; omega) (by omega) (by first | exact hbs1 | (simp; omega)) ?_; intro v2 w2 hown2 hgrow2 hat2; have hbr2 := grown_belowS (by first | exact hbr1 | exact hbr1.alloc hbs1 _) (by first | exact hown1 | exact hown1.alloc _) (by first | exact hbs1 | (simp; omega)) hgrow2; have hbs2 := hbr2.size; have q2 := keepF hbr2 _ _ _ c0)
            | (refine step_append_rd (by rfl) (.tmp 83) (.tmp 89) 93 (by rfl) w.heap.size 97 i0 _ 2 16 Try.underlying93 hi0 hz0 hz1 hz2 rfl (by omega) _ (k + 1) (flatB (l.take k) ++ Bk.cells ⟨at', n⟩) (by rfl) hown2
                _ (i - k) (flatB (l.drop k)) (by rfl) (hq2.below hbr2) (flatB_one _) (by simp only [maxLen]; omega) (by omega) hbs2 ?_; intro v3 w3 hown3 hgrow3 hat3; have hbr3 := grown_belowS hbr2 hown2 hbs2 hgrow3; obtain ⟨so, sc, rfl, _, _, _⟩ := RdS.of_own hown3; have q3 := keepF hbr3 _ _ _ c0; have q4 : w3.frozen? ⟨s, 0, .none⟩ = false := rowFree ((hbr3.block s hlts).trans h.head) 0))
        all_goals
          rw [← hgf.out] at hown3
          obtain ⟨m1, m2, m3⟩ := Mdl.reset h hbr3 hown3 hgn.out hokt
          go_wp2
          go_ret
          exact ⟨rfl, _, m1, m2, m3⟩
end Go.Proofs.Ytfknaheijidhcaa
