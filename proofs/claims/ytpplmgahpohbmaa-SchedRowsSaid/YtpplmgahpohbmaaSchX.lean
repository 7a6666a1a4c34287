/- The walk of sched.Weave. -/
import Derived.Test.YtpplmgahpohbmaaSchW
import Derived.Test.YtpplmgahpohbmaaRw
import Derived.Deep.DrawnRows
namespace Go.Proofs.Ytpplmgahpohbmaa
open Go.RowKit Fl
attribute [local go_sem ↓] Go.wp_at_zero Go.wp_at_succ
attribute [local go_sem high] run_cut_l run_cut_h run_cut_lh

theorem RdC.s {w : World} {v : Value} {xs : List Ch} (h : RdC w v xs) : RdS w 6 v xs.length (flatC xs) := by
  obtain ⟨ao, cap, e, h1, h2, h3⟩ := h
  refine ⟨ao, cap, e, h1, h2, flatC_length xs, fun hn => ?_⟩
  obtain ⟨b, off, ea, hlt, hc⟩ := h3 (fun h => by subst h; simp at hn)
  refine ⟨b, off, ea, hlt, fun i hi => ?_⟩
  have e1 : i = i / 6 * 6 + i % 6 := by omega
  rw [e1, ← Nat.add_assoc, hc (i / 6) (i % 6) (by omega) (by omega), flatC_get xs _ _ (by omega) (by omega)]
theorem RdS.c {w : World} {v : Value} {n : Nat} {xs : List Ch} (h : RdS w 6 v n (flatC xs)) : RdC w v xs := by
  obtain ⟨ao, cap, e, h1, h2, h3, h4⟩ := h
  have hn : n = xs.length := by rw [flatC_length] at h3; omega
  subst hn
  refine ⟨ao, cap, e, h1, h2, fun hx => ?_⟩
  obtain ⟨b, off, ea, hlt, hc⟩ := h4 (fun h => hx (List.eq_nil_of_length_eq_zero h))
  refine ⟨b, off, ea, hlt, fun i j hi hj => ?_⟩
  rw [← flatC_get xs i j hi hj, Nat.add_assoc]
  exact hc _ (by omega)
theorem flatC_drop (xs : List Ch) (k : Nat) : (flatC xs).drop (k * 6) = flatC (xs.drop k) := by
  induction k generalizing xs with
  | zero => simp
  | succ k ih =>
    cases xs with
    | nil => simp [flatC]
    | cons x xs =>
      show (x.cells ++ flatC xs).drop _ = flatC (xs.drop k)
      rw [← ih, List.drop_append, show x.cells.length = 6 from rfl, show (k + 1) * 6 - 6 = k * 6 from by omega, List.drop_of_length_le (by show 6 ≤ _; omega)]
      rfl
theorem flatC_take (xs : List Ch) (k : Nat) : (flatC xs).take (k * 6) = flatC (xs.take k) := by
  induction k generalizing xs with
  | zero => simp [flatC]
  | succ k ih =>
    cases xs with
    | nil => simp [flatC]
    | cons x xs =>
      show (x.cells ++ flatC xs).take _ = x.cells ++ flatC (xs.take k)
      rw [← ih, List.take_append, show x.cells.length = 6 from rfl, show (k + 1) * 6 - 6 = k * 6 from by omega, List.take_of_length_le (by show 6 ≤ _; omega)]
/-- A cut of a row of choices. -/
theorem RdC.cut {w : World} {ao : Option Addr} {n cap l h : Nat} {xs : List Ch} (r : RdC w (.slice ao n cap) xs) (hl : l ≤ h) (hh : h ≤ n) : RdC w (cutV ao l h cap 6) ((xs.drop l).take (h - l)) := by
  have hn : n = xs.length := by obtain ⟨_, _, e, _⟩ := r; injection e
  subst hn
  have := r.s.cut hl hh
  rw [flatC_drop, flatC_take] at this
  exact this.c
theorem RdC.first {w : World} {v : Value} {x : Ch} {xs : List Ch} (r : RdC w v (x :: xs)) : ∃ b off cap, v = .slice (some ⟨b, off, .none⟩) (xs.length + 1) cap ∧ xs.length + 1 ≤ cap ∧ (cap : Int) ≤ 9223372036854775807 ∧ b < w.heap.size ∧
    w.cell? ⟨b, off, .none⟩ = some (.int .i64 x.kind) ∧ w.cell? ⟨b, off + 1, .none⟩ = some (.int .i64 x.client) ∧ w.cell? ⟨b, off + 2, .none⟩ = some (.int .i64 x.ok) ∧ w.cell? ⟨b, off + 3, .none⟩ = some (.int .i64 x.oa) ∧
    w.cell? ⟨b, off + 4, .none⟩ = some (.int .i64 x.on) ∧ w.cell? ⟨b, off + 5, .none⟩ = some (.float .f64 x.bias) := by
  obtain ⟨ao, cap, e, h1, h2, h3⟩ := r
  obtain ⟨b, off, rfl, hlt, hc⟩ := h3 (by simp)
  have hc' := fun j hj => hc 0 j (by simp) hj
  simp only [Nat.zero_mul, Nat.add_zero, List.getElem_cons_zero] at hc'
  exact ⟨b, off, cap, e, h1, h2, hlt, hc' 0 (by omega), hc' 1 (by omega), hc' 2 (by omega), hc' 3 (by omega), hc' 4 (by omega), hc' 5 (by omega)⟩

def weaveL : List Ch → List Ch → List Bool → List Ch
  | a, b, [] => a ++ b
  | [], [], _ :: _ => []
  | a, y :: b, true :: l => y :: weaveL a b l
  | [], y :: b, false :: l => y :: weaveL [] b l
  | x :: a, b, false :: l => x :: weaveL a b l
  | x :: a, [], true :: l => x :: weaveL a [] l
theorem weaveL_length (a b : List Ch) (l : List Bool) : (weaveL a b l).length = a.length + b.length := by
  induction l generalizing a b with
  | nil => simp [weaveL]
  | cons t l ih =>
    cases a <;> cases b <;> cases t <;> simp [weaveL, ih] <;> omega

/-- A row of bools. -/
def RdB (w : World) (v : Value) (l : List Bool) : Prop := RdS w 1 v l.length (l.map .bool)

/-- What holds of the loop of Weave ahead of bit i. -/
def WvRel (B : Nat) (w : World) (l : List Bool) (tot : List Ch) (i : Nat) (va vb vo : Value) (wr : World) : Prop :=
  ∃ a b out : List Ch, RdC w va a ∧ RdC w vb b ∧ OC B wr vo out ∧ out ++ weaveL a b (l.drop i) = tot ∧ Below B w wr
theorem cell_b {w : World} {v : Value} {l : List Bool} (h : RdB w v l) : ∃ ao cap, v = .slice ao l.length cap ∧ l.length ≤ cap ∧ (cap : Int) ≤ 9223372036854775807 ∧
    ∀ i (hi : i < l.length), ∃ b off, ao = some ⟨b, off, .none⟩ ∧ b < w.heap.size ∧ w.cell? ⟨b, off + i, .none⟩ = some (.bool l[i]) := by
  obtain ⟨ao, cap, e, h1, h2, _, h4⟩ := h
  refine ⟨ao, cap, e, h1, h2, fun i hi => ?_⟩
  obtain ⟨b, off, ea, hlt, hc⟩ := h4 (by omega)
  refine ⟨b, off, ea, hlt, (hc i (by omega)).trans ?_⟩
  simp [hi]

theorem flat_one (xs : List Ch) : ∀ u ∈ flatC xs, u.oneCell' = true := by
  intro u hu
  obtain ⟨c, _, hc⟩ := List.mem_flatMap.1 hu
  exact Ch.one c u hc
theorem nm (k : Nat) : ∃ n, Hid (n = k) ∧ n = k := ⟨k, Lib.hid rfl, rfl⟩

theorem wv_b {B : Nat} {w w1 : World} {l : List Bool} {tot a b' out : List Ch} {y : Ch} {aa : Value} {bb : Option Addr} {cb n m q i : Nat} {v1 : Value} (ra : RdC w aa a) (rb : RdC w (.slice bb (m + 1) cb) (y :: b')) (_hn : n = a.length) (_hm : m = b'.length) (hq : q = out.length)
    (hown : w1.ownsRow B 31 6 v1 (q + 1) (flatC out ++ y.cells)) (hb : Below B w w1) (he : out ++ y :: weaveL a b' (l.drop (i + 1)) = tot) : WvRel B w l tot (i + 1) aa (cutV bb 1 (m + 1) cb 6) v1 w1 := by
  have hc := rb.cut (l := 1) (h := m + 1) (by omega) (by omega)
  rw [List.drop_succ_cons, List.drop_zero, Nat.add_sub_cancel, List.take_of_length_le (by omega)] at hc
  refine ⟨a, b', out ++ [y], ra, hc, ?_, by rw [List.append_assoc]; exact he, hb⟩
  show w1.ownsRow _ _ 6 _ (out ++ [y]).length (flatC (out ++ [y]))
  rw [flatC_append, List.length_append, ← hq]
  exact hown
theorem wv_a {B : Nat} {w w1 : World} {l : List Bool} {tot a' b out : List Ch} {x : Ch} {bb : Value} {aa : Option Addr} {ca n m q i : Nat} {v1 : Value} (ra : RdC w (.slice aa (n + 1) ca) (x :: a')) (rb : RdC w bb b) (hn : n = a'.length) (_hm : m = b.length) (hq : q = out.length)
    (hown : w1.ownsRow B 31 6 v1 (q + 1) (flatC out ++ x.cells)) (hb : Below B w w1) (he : out ++ x :: weaveL a' b (l.drop (i + 1)) = tot) : WvRel B w l tot (i + 1) (cutV aa 1 (n + 1) ca 6) bb v1 w1 := by
  have hc := ra.cut (l := 1) (h := n + 1) (by omega) (by omega)
  rw [List.drop_succ_cons, List.drop_zero, Nat.add_sub_cancel, List.take_of_length_le (by omega)] at hc
  refine ⟨a', b, out ++ [x], hc, rb, ?_, by rw [List.append_assoc]; exact he, hb⟩
  show w1.ownsRow _ _ 6 _ (out ++ [x]).length (flatC (out ++ [x]))
  rw [flatC_append, List.length_append, ← hq]
  exact hown

set_option maxHeartbeats 1000000 in
theorem weave_any (a0 b0 : List Ch) (l : List Bool) (va vb vl : Value) (w : World) (ha : RdC w va a0) (hb : RdC w vb b0) (hl : RdB w vl l) (hsz : a0.length + b0.length ≤ 100000) :
    Calls Try.prog 12 #[va, vb, vl] w fun e w' => ∃ v', e = .returned v' ∧ Below w.heap.size w w' ∧ OC w.heap.size w' v' (weaveL a0 b0 l) := by
  obtain ⟨ao, cap, rfl, hcap, hcm, hbit⟩ := cell_b hl
  have hlN : l.length ≤ 9223372036854775807 := by omega
  obtain ⟨tot, htot⟩ : ∃ tot, tot = weaveL a0 b0 l := ⟨_, rfl⟩
  have htl : tot.length ≤ 100000 := by rw [htot, weaveL_length]; exact hsz
  rw [← htot]
  have htot' := Lib.hid htot
  clear htot
  go_enter Try.func12, Try.ntmps12
  go_wp2
  go_loopw [0, 1, 7, 12] (fun va vb vo vi wr => ∃ i : Nat, i ≤ l.length ∧ vi = .int .i64 i ∧ WvRel w.heap.size w l tot i va vb vo wr) (fun _ _ _ vi _ => l.length - (intOf vi).toNat)
  case atStart => exact ⟨0, Nat.zero_le _, rfl, a0, b0, [], ha, hb, OwnC.nil _ _ _, htot'.out.symm, Below.refl _ _⟩
  case round =>
    obtain ⟨i, hi, rfl, a, b, out, ra, rb, ho, he, hbr⟩ := hrel
    by_cases hlt : i < l.length
    · obtain ⟨g, off, rfl, hg, hc⟩ := hbit i hlt
      have hc := keepF hbr _ _ _ hc
      rw [List.drop_eq_getElem_cons hlt] at he
      generalize l[i] = bit at *
      by_cases hB : ∃ y b', b = y :: b' ∧ (bit = true ∨ a = [])
      · obtain ⟨y, b', rfl, hor⟩ := hB
        have hwv : weaveL a (y :: b') (bit :: l.drop (i + 1)) = y :: weaveL a b' (l.drop (i + 1)) := by
          rcases hor with rfl | rfl
          · cases a <;> rfl
          · cases bit <;> rfl
        have hlen : a.length + b'.length + 1 + out.length ≤ 100000 := by
          have e := congrArg List.length he
          rw [hwv, List.length_append, List.length_cons, weaveL_length] at e
          omega
        have ra' := ra
        have rb' := rb
        obtain ⟨aa, ca, rfl, hca, hcam, _⟩ := ra
        obtain ⟨bb, ob, cb, rfl, hcb, hcbm, hbb, y0, y1, y2, y3, y4, y5⟩ := rb.first
        have x0 := keepF hbr _ _ _ y0
        have x1 := keepF hbr _ _ _ y1
        have x2 := keepF hbr _ _ _ y2
        have x3 := keepF hbr _ _ _ y3
        have x4 := keepF hbr _ _ _ y4
        have x5 := keepF hbr _ _ _ y5
        have hor : bit = true ∨ a.length = 0 := hor.imp id (fun h => by rw [h]; rfl)
        obtain ⟨n, hn, hn'⟩ := nm a.length
        obtain ⟨m, hm, hm'⟩ := nm b'.length
        obtain ⟨q, hq, hq'⟩ := nm out.length
        rw [← hn'] at hca hor hlen ra' ⊢
        rw [← hm'] at hcb hlen rb' ⊢
        rw [← hq'] at hlen
        have ho : wr.ownsRow w.heap.size 31 6 u7 q (flatC out) := by rw [hq']; exact ho
        have hwv' := hwv; clear hwv; have hwv := Lib.hid hwv'; clear hwv'
        have he' := he; clear he; have he := Lib.hid he'; clear he'
        clear hn' hm' hq'
        have e0 : ((n : Int) + ((m : Int) + 1) == 0) = false := by rw [beq_eq_false_iff_ne]; omega
        have e1 : (1 : Int) ≤ (m : Int) + 1 := by omega
        have e2 : (1 : Int) ≤ ((m + 1 : Nat) : Int) := by omega
        obtain ⟨i0, hi0, hz0, hz1, hz2⟩ := info_parts infoCh
        have hbs := hbr.size
        rcases hor with rfl | h0
        · go_wp2
          go_region_held3 (fun w' => w'.cell? ⟨bb, ob, .none⟩ = some (.int .i64 y.kind) ∧ w'.cell? ⟨bb, ob + 1, .none⟩ = some (.int .i64 y.client) ∧ w'.cell? ⟨bb, ob + 2, .none⟩ = some (.int .i64 y.ok) ∧ w'.cell? ⟨bb, ob + 3, .none⟩ = some (.int .i64 y.oa) ∧ w'.cell? ⟨bb, ob + 4, .none⟩ = some (.int .i64 y.on) ∧ w'.cell? ⟨bb, ob + 5, .none⟩ = some (.float .f64 y.bias)) (first | go_keep | exact ⟨keepF hbr1 _ _ _ y0, keepF hbr1 _ _ _ y1, keepF hbr1 _ _ _ y2, keepF hbr1 _ _ _ y3, keepF hbr1 _ _ _ y4, keepF hbr1 _ _ _ y5⟩)
            ((refine step_append_rd (by rfl) _ _ 25 (by rfl) w.heap.size 31 i0 _ 6 48 Try.underlying25 hi0 hz0 hz1 hz2 rfl (by omega) _ q (flatC out) (by rfl) ((ho.alloc _).drew)
                _ 1 y.cells (by rfl) (RdS.new (cs := y.cells.toArray) (t := 31) (sz := 6) (n := 1) (heap_alloc_new wr _) rfl (by omega)) (Ch.one _) (by simp only [maxLen]; omega) (by omega) (by simp; omega) ?_; intro v1 w1 hown1 hgrow1 hat1; have hbr1 := grown_belowS (((hbr.alloc hbr.size _).drew)) ((ho.alloc _).drew) (by simp; omega) hgrow1))
          go_wp2
          exact ⟨⟨i + 1, by omega, by go_num, wv_b ra' rb' hn.out hm.out hq.out hown1 hbr1 (hwv.out ▸ he.out)⟩, by simp [intOf]; omega⟩
        · obtain rfl : n = 0 := h0
          cases bit
          all_goals
            go_wp2
            go_region_held3 (fun w' => w'.cell? ⟨bb, ob, .none⟩ = some (.int .i64 y.kind) ∧ w'.cell? ⟨bb, ob + 1, .none⟩ = some (.int .i64 y.client) ∧ w'.cell? ⟨bb, ob + 2, .none⟩ = some (.int .i64 y.ok) ∧ w'.cell? ⟨bb, ob + 3, .none⟩ = some (.int .i64 y.oa) ∧ w'.cell? ⟨bb, ob + 4, .none⟩ = some (.int .i64 y.on) ∧ w'.cell? ⟨bb, ob + 5, .none⟩ = some (.float .f64 y.bias)) (first | go_keep | exact ⟨keepF hbr1 _ _ _ y0, keepF hbr1 _ _ _ y1, keepF hbr1 _ _ _ y2, keepF hbr1 _ _ _ y3, keepF hbr1 _ _ _ y4, keepF hbr1 _ _ _ y5⟩)
              ((refine step_append_rd (by rfl) _ _ 25 (by rfl) w.heap.size 31 i0 _ 6 48 Try.underlying25 hi0 hz0 hz1 hz2 rfl (by omega) _ q (flatC out) (by rfl) ((ho.alloc _).drew)
                  _ 1 y.cells (by rfl) (RdS.new (cs := y.cells.toArray) (t := 31) (sz := 6) (n := 1) (heap_alloc_new wr _) rfl (by omega)) (Ch.one _) (by simp only [maxLen]; omega) (by omega) (by simp; omega) ?_; intro v1 w1 hown1 hgrow1 hat1; have hbr1 := grown_belowS (((hbr.alloc hbr.size _).drew)) ((ho.alloc _).drew) (by simp; omega) hgrow1))
            go_wp2
            exact ⟨⟨i + 1, by omega, by go_num, wv_b ra' rb' hn.out hm.out hq.out hown1 hbr1 (hwv.out ▸ he.out)⟩, by simp [intOf]; omega⟩
      · by_cases hA : ∃ x a', a = x :: a'
        · obtain ⟨x, a', rfl⟩ := hA
          have hor : b = [] ∨ bit = false := by
            rcases b with _ | ⟨y, b'⟩
            · exact .inl rfl
            · right
              cases bit
              · rfl
              · exact absurd ⟨y, b', rfl, .inl rfl⟩ hB
          have hwv : weaveL (x :: a') b (bit :: l.drop (i + 1)) = x :: weaveL a' b (l.drop (i + 1)) := by
            rcases hor with rfl | rfl
            · cases bit <;> rfl
            · rfl
          have hlen : a'.length + 1 + b.length + out.length ≤ 100000 := by
            have e := congrArg List.length he
            rw [hwv, List.length_append, List.length_cons, weaveL_length] at e
            omega
          have ra' := ra
          have rb' := rb
          obtain ⟨bb, cb, rfl, hcb, hcbm, _⟩ := rb
          obtain ⟨aa, oa, ca, rfl, hca, hcam, haa, y0, y1, y2, y3, y4, y5⟩ := ra.first
          have x0 := keepF hbr _ _ _ y0
          have x1 := keepF hbr _ _ _ y1
          have x2 := keepF hbr _ _ _ y2
          have x3 := keepF hbr _ _ _ y3
          have x4 := keepF hbr _ _ _ y4
          have x5 := keepF hbr _ _ _ y5
          have hor : bit = false ∨ b.length = 0 := hor.symm.imp id (fun h => by rw [h]; rfl)
          obtain ⟨n, hn, hn'⟩ := nm a'.length
          obtain ⟨m, hm, hm'⟩ := nm b.length
          obtain ⟨q, hq, hq'⟩ := nm out.length
          rw [← hn'] at hca hlen ⊢
          rw [← hn'] at ra'
          rw [← hm'] at hcb hor hlen rb' ⊢
          rw [← hq'] at hlen
          have ho : wr.ownsRow w.heap.size 31 6 u7 q (flatC out) := by rw [hq']; exact ho
          have hwv' := hwv; clear hwv; have hwv := Lib.hid hwv'; clear hwv'
          have he' := he; clear he; have he := Lib.hid he'; clear he'
          clear hn' hm' hq'
          have e0 : ((n : Int) + 1 + (m : Int) == 0) = false := by rw [beq_eq_false_iff_ne]; omega
          have e3 : ((n : Int) + 1 == 0) = false := by rw [beq_eq_false_iff_ne]; omega
          have e1 : (1 : Int) ≤ (n : Int) + 1 := by omega
          have e2 : (1 : Int) ≤ ((n + 1 : Nat) : Int) := by omega
          obtain ⟨i0, hi0, hz0, hz1, hz2⟩ := info_parts infoCh
          have hbs := hbr.size
          clear hB
          rcases hor with rfl | h0
          · go_wp2
            go_region_held3 (fun w' => w'.cell? ⟨aa, oa, .none⟩ = some (.int .i64 x.kind) ∧ w'.cell? ⟨aa, oa + 1, .none⟩ = some (.int .i64 x.client) ∧ w'.cell? ⟨aa, oa + 2, .none⟩ = some (.int .i64 x.ok) ∧ w'.cell? ⟨aa, oa + 3, .none⟩ = some (.int .i64 x.oa) ∧ w'.cell? ⟨aa, oa + 4, .none⟩ = some (.int .i64 x.on) ∧ w'.cell? ⟨aa, oa + 5, .none⟩ = some (.float .f64 x.bias)) (first | go_keep | exact ⟨keepF hbr1 _ _ _ y0, keepF hbr1 _ _ _ y1, keepF hbr1 _ _ _ y2, keepF hbr1 _ _ _ y3, keepF hbr1 _ _ _ y4, keepF hbr1 _ _ _ y5⟩)
              ((refine step_append_rd (by rfl) _ _ 25 (by rfl) w.heap.size 31 i0 _ 6 48 Try.underlying25 hi0 hz0 hz1 hz2 rfl (by omega) _ q (flatC out) (by rfl) ((ho.alloc _).drew)
                  _ 1 x.cells (by rfl) (RdS.new (cs := x.cells.toArray) (t := 31) (sz := 6) (n := 1) (heap_alloc_new wr _) rfl (by omega)) (Ch.one _) (by simp only [maxLen]; omega) (by omega) (by simp; omega) ?_; intro v1 w1 hown1 hgrow1 hat1; have hbr1 := grown_belowS (((hbr.alloc hbr.size _).drew)) ((ho.alloc _).drew) (by simp; omega) hgrow1))
            go_wp2
            exact ⟨⟨i + 1, by omega, by go_num, wv_a ra' rb' hn.out hm.out hq.out hown1 hbr1 (hwv.out ▸ he.out)⟩, by simp [intOf]; omega⟩
          · obtain rfl : m = 0 := h0
            cases bit
            all_goals
              go_wp2
              go_region_held3 (fun w' => w'.cell? ⟨aa, oa, .none⟩ = some (.int .i64 x.kind) ∧ w'.cell? ⟨aa, oa + 1, .none⟩ = some (.int .i64 x.client) ∧ w'.cell? ⟨aa, oa + 2, .none⟩ = some (.int .i64 x.ok) ∧ w'.cell? ⟨aa, oa + 3, .none⟩ = some (.int .i64 x.oa) ∧ w'.cell? ⟨aa, oa + 4, .none⟩ = some (.int .i64 x.on) ∧ w'.cell? ⟨aa, oa + 5, .none⟩ = some (.float .f64 x.bias)) (first | go_keep | exact ⟨keepF hbr1 _ _ _ y0, keepF hbr1 _ _ _ y1, keepF hbr1 _ _ _ y2, keepF hbr1 _ _ _ y3, keepF hbr1 _ _ _ y4, keepF hbr1 _ _ _ y5⟩)
                ((refine step_append_rd (by rfl) _ _ 25 (by rfl) w.heap.size 31 i0 _ 6 48 Try.underlying25 hi0 hz0 hz1 hz2 rfl (by omega) _ q (flatC out) (by rfl) ((ho.alloc _).drew)
                    _ 1 x.cells (by rfl) (RdS.new (cs := x.cells.toArray) (t := 31) (sz := 6) (n := 1) (heap_alloc_new wr _) rfl (by omega)) (Ch.one _) (by simp only [maxLen]; omega) (by omega) (by simp; omega) ?_; intro v1 w1 hown1 hgrow1 hat1; have hbr1 := grown_belowS (((hbr.alloc hbr.size _).drew)) ((ho.alloc _).drew) (by simp; omega) hgrow1))
              go_wp2
              exact ⟨⟨i + 1, by omega, by go_num, wv_a ra' rb' hn.out hm.out hq.out hown1 hbr1 (hwv.out ▸ he.out)⟩, by simp [intOf]; omega⟩
        · obtain rfl : a = [] := by
            rcases a with _ | ⟨x, a'⟩
            · rfl
            · exact absurd ⟨x, a', rfl⟩ hA
          obtain rfl : b = [] := by
            rcases b with _ | ⟨y, b'⟩
            · rfl
            · exact absurd ⟨y, b', rfl, .inr rfl⟩ hB
          obtain ⟨bb, cb, rfl, hcb, hcbm, _⟩ := rb
          obtain ⟨aa, ca, rfl, hca, hcam, _⟩ := ra
          have hfin : out = tot := by
            cases bit <;> simpa [weaveL] using he
          clear hA hB he
          go_wp2
          go_ret
          exact ⟨_, rfl, hbr, hfin ▸ ho⟩
    · have hie : i = l.length := by omega
      subst hie
      have hj0 : ¬ ((l.length : Int) < (l.length : Int)) := by omega
      rw [List.drop_length] at he
      have he : out ++ (a ++ b) = tot := by simpa [weaveL] using he
      have hlen : out.length + (a.length + b.length) ≤ 100000 := by
        rw [← he, List.length_append, List.length_append] at htl
        omega
      have sa := ra.s.below hbr
      have sb := rb.s.below hbr
      obtain ⟨n, hn, hn'⟩ := nm a.length
      obtain ⟨m, hm, hm'⟩ := nm b.length
      obtain ⟨q, hq, hq'⟩ := nm out.length
      rw [← hn', ← hm', ← hq'] at hlen
      rw [← hn'] at sa
      rw [← hm'] at sb
      have ho : wr.ownsRow w.heap.size 31 6 u7 q (flatC out) := by rw [hq']; exact ho
      have he' := he; clear he; have he := Lib.hid he'; clear he'
      clear hn' hm' hq'
      obtain ⟨i0, hi0, hz0, hz1, hz2⟩ := info_parts infoCh
      have hbs := hbr.size
      go_wp2_with (first
        | (refine wpList_append_rd rfl (.tmp 53) (.tmp 54) 25 rfl w.heap.size 31 i0 _ 6 48 Try.underlying25 hi0 hz0 hz1 hz2 rfl (by omega) _ q (flatC out) rfl ho _ n (flatC a) rfl sa (flat_one _) (by simp only [maxLen]; omega) (by omega) hbs ?_; intro v1 w1 hown1 hgrow1 hat1; have hbr1 := grown_belowS hbr ho hbs hgrow1; have hbs1 := hbr1.size; have sb := rb.s.below hbr1; rw [← hm.out] at sb)
        | (refine wpList_append_rd rfl (.tmp 55) (.tmp 56) 25 rfl w.heap.size 31 i0 _ 6 48 Try.underlying25 hi0 hz0 hz1 hz2 rfl (by omega) _ (q + n) (flatC out ++ flatC a) rfl hown1 _ m (flatC b) rfl sb (flat_one _) (by simp only [maxLen]; omega) (by omega) hbs1 ?_; intro v2 w2 hown2 hgrow2 hat2; have hbr2 := grown_belowS hbr1 hown1 hbs1 hgrow2))
      go_ret
      refine ⟨_, rfl, hbr2, ?_⟩
      show w2.ownsRow _ _ 6 _ tot.length (flatC tot)
      have e1 : tot = out ++ a ++ b := by rw [← he.out, List.append_assoc]
      rw [e1, flatC_append, flatC_append, List.length_append, List.length_append, ← hq.out, ← hn.out, ← hm.out]
      exact hown2
end Go.Proofs.Ytpplmgahpohbmaa
