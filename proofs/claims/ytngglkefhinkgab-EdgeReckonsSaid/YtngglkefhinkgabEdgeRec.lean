/- The walk of the law EdgeReckons. -/
import Derived.Test.YtngglkefhinkgabEdgeS
namespace Go.Proofs.Ytngglkefhinkgab
open Go.RowKit Fl

set_option maxRecDepth 100000 in
set_option maxHeartbeats 4000000 in
theorem edgeReckons_any (x y z : Nat) (a b : Int) (w : World) (hx : x < 18446744073709551616) (hy : y < 18446744073709551616) (hz : z < 18446744073709551616)
    (ha : -9223372036854775808 ≤ a ∧ a ≤ 9223372036854775807) (hb : -9223372036854775808 ≤ b ∧ b ≤ 9223372036854775807) :
    Calls Try.prog 6 #[.agg #[F64 x, F64 y, F64 z], .int .i64 a, .int .i64 b] w fun e w' => e = .returned (.bool true) ∧ Below w.heap.size w w' := by
  have hs1 := lawSame_any (clampF x y z) (clampF x y z) (clamp_lt hx hy hz) (clamp_lt hx hy hz)
  have hs2 := lawSame_any (ratioF a b) (ratioF a b) (ratio_lt a b ha hb) (ratio_lt a b ha hb)
  rw [decide_eq_true rfl] at hs1 hs2
  have k1 := kind_any x
  have k2 := refKind_any x
  have c1 := compare_any x y hx hy
  have c2 := refCompare_any x y hx hy
  have s1 := same_any x y hx hy
  have s2 := refSame_any x y hx hy
  have l1 := clamp_any x y z hx hy hz
  have l2 := refClamp_any x y z hx hy hz
  have r1 := ratio_any a b ha hb
  have r2 := refRatio_any a b ha hb
  have h1 := share_any x a ha.1 ha.2
  have h2 := refShare_any x a ha.1 ha.2
  generalize kindI x = k at *
  generalize cmpI (key x) (key y) = c at *
  generalize decide (key x = key y) = s at *
  generalize clampF x y z = l at *
  generalize ratioF a b = r at *
  generalize shareI x a = h at *
  have e1 : (k == k) = true := beq_self_eq_true k
  have e2 : (c == c) = true := beq_self_eq_true c
  have e3 : (s == s) = true := beq_self_eq_true s
  have e4 : (h == h) = true := beq_self_eq_true h
  clear hx hy hz ha hb
  go_enter Try.func6, Try.ntmps6
  go_upto_region 3 with (go_at_call 9; refine (awake1 _).mono ?_; rintro e w1 ⟨rfl, rfl⟩)
  have hbl : Below w.heap.size w (w.alloc (.cells #[F64 x, F64 y, F64 z] 23)) := (Below.refl _ _).alloc (Nat.le_refl _) _
  have hc := rowCells (heap_alloc_new w (.cells #[F64 x, F64 y, F64 z] 23))
  generalize (w.alloc (.cells #[F64 x, F64 y, F64 z] 23)) = W at *
  generalize hB : w.heap.size = B at *
  have q0 : W.cell? ⟨B, 0, .none⟩ = some (F64 x) := hc 0
  have q1 : W.cell? ⟨B, 1, .none⟩ = some (F64 y) := hc 1
  have q2 : W.cell? ⟨B, 2, .none⟩ = some (F64 z) := hc 2
  clear hc
  go_quiet (fail)
  go_wp2_with (first
    | (go_at_call 14; refine (k1 _).mono ?_; rintro e w1 ⟨rfl, rfl⟩)
    | (go_at_call 16; refine (k2 _).mono ?_; rintro e w1 ⟨rfl, rfl⟩)
    | (go_at_call 10; refine (c1 _).mono ?_; rintro e w1 ⟨rfl, rfl⟩)
    | (go_at_call 17; refine (c2 _).mono ?_; rintro e w1 ⟨rfl, rfl⟩)
    | (go_at_call 11; refine (s1 _).mono ?_; rintro e w1 ⟨rfl, rfl⟩)
    | (go_at_call 18; refine (s2 _).mono ?_; rintro e w1 ⟨rfl, rfl⟩)
    | (go_at_call 19; refine (l1 _).mono ?_; rintro e w1 ⟨rfl, rfl⟩)
    | (go_at_call 20; refine (l2 _).mono ?_; rintro e w1 ⟨rfl, rfl⟩)
    | (go_at_call 13; refine (r1 _).mono ?_; rintro e w1 ⟨rfl, rfl⟩)
    | (go_at_call 21; refine (r2 _).mono ?_; rintro e w1 ⟨rfl, rfl⟩)
    | (go_at_call 12; refine (h1 _).mono ?_; rintro e w1 ⟨rfl, rfl⟩)
    | (go_at_call 22; refine (h2 _).mono ?_; rintro e w1 ⟨rfl, rfl⟩)
    | (go_at_call 15; (with_reducible refine (hs1 _).mono ?_); rintro e w1 ⟨rfl, rfl⟩)
    | (go_at_call 15; (with_reducible refine (hs2 _).mono ?_); rintro e w1 ⟨rfl, rfl⟩))
  go_ret
  exact ⟨rfl, by rw [hB]; exact below_drewN hbl _⟩
end Go.Proofs.Ytngglkefhinkgab
