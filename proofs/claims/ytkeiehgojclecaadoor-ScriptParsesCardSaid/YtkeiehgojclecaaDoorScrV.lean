/- ParseUint at base 16, ParseInt and FormatInt at base 10 as package script uses them. -/
import Derived.Test.YtkeiehgojclecaaDoorScrU

namespace Go.Proofs.YtkeiehgojclecaaDoor

open Go.RowKit

/-- What an error is, as ParseUint hands it back. -/
def okErr (ev : Value) : Prop := ev = .nilIface ∨ ∃ N, ev = .iface 139 (.pointer (some ⟨N, 0, .none⟩))
def puOk (t : ByteArray) (v : Int) (ev : Value) : Prop := (0 ≤ v ∧ v < 18446744073709551616) ∧ okErr ev ∧ (t.size ≠ 0 → ∀ r : Nat, hexP 0 t.data.toList = some r → ev = .nilIface ∧ v = r) ∧ (t.size = 0 → ev ≠ .nilIface)
theorem parseUint_any (t : ByteArray) (hlim : t.size ≤ 281474976710656) (w : World) (h : Laid w) :
    Calls Tryd.prog 66 #[.string t, .int .i64 16, .int .i64 64] w fun e w' => ∃ (v : Int) (ev : Value), e = .returned (.tuple #[.int .u64 v, ev]) ∧ puOk t v ev ∧ Below w.heap.size w w' := by
  obtain ⟨tp, p, hes⟩ := h.es
  obtain ⟨tq, q, her⟩ := h.er
  have hS := Lib.hid (fun (X : World) (hX : Below w.heap.size w X) => Tryd.strconv_toError_syntax ⟨#[80, 97, 114, 115, 101, 85, 105, 110, 116]⟩ t 16 64 _ X hlim (keepF hX _ _ _ hes) (.inr ⟨_, _, rfl⟩))
  have hR := Lib.hid (fun (X : World) (hX : Below w.heap.size w X) => Tryd.strconv_toError_range ⟨#[80, 97, 114, 115, 101, 85, 105, 110, 116]⟩ t 16 64 _ X hlim (keepF hX _ _ _ her) (.inr ⟨_, _, rfl⟩))
  clear hes her
  go_enter Tryd.func66, Tryd.ntmps66
  by_cases ht : t.size = 0
  · obtain rfl : t = ByteArray.empty := by
      obtain ⟨d⟩ := t
      have : d.size = 0 := ht
      have : d = #[] := Array.eq_empty_of_size_eq_zero this
      subst this; rfl
    go_wp2_with (first
      | (go_at_call 81; refine (Tryd.internal_strconv_ParseUint_empty 16 64 _).mono ?_; rintro r w1 ⟨rfl, rfl⟩)
      | (go_at_call 80; refine (hS.out _ (Below.refl _ _)).mono ?_; rintro r w2 ⟨N, rfl, _, _, hb2⟩))
    go_ret2
    exact ⟨_, _, rfl, ⟨⟨by omega, by omega⟩, .inr ⟨N, rfl⟩, fun h => absurd rfl h, fun _ e => (by cases e)⟩, hb2⟩
  · go_upto_region 2 with (go_at_call 81; refine (parseUint0_any t ht (by omega) _).mono ?_; rintro r w1 ⟨v, ev, rfl, hv, hev, hx, hw1⟩; have hb1 : Below w.heap.size w w1 := hw1 ▸ Lib.bytesWorld_below w _ t; clear hw1; replace hx := Lib.hid hx; replace hev := Lib.hid hev)
    rcases hev.out with rfl | rfl | rfl
    · have hp : puOk t v .nilIface := ⟨hv, .inl rfl, fun _ => hx.out, fun h => absurd h ht⟩
      clear hx hev ht
      go_wp2
      go_ret2
      exact ⟨v, _, rfl, hp, hb1⟩
    · have hp : ∀ N, puOk t v (.iface 139 (.pointer (some ⟨N, 0, .none⟩))) := fun N => ⟨hv, .inr ⟨N, rfl⟩, fun _ r hr => (by have := (hx.out r hr).1; cases this), fun h => absurd h ht⟩
      clear hx hev ht
      go_wp2_with (go_at_call 80; refine (hR.out _ hb1).mono ?_; rintro r w2 ⟨N, rfl, _, _, hb2⟩)
      go_ret2
      exact ⟨v, _, rfl, hp N, hb1.trans (hb2.mono hb1.size)⟩
    · have hp : ∀ N, puOk t v (.iface 139 (.pointer (some ⟨N, 0, .none⟩))) := fun N => ⟨hv, .inr ⟨N, rfl⟩, fun _ r hr => (by have := (hx.out r hr).1; cases this), fun h => absurd h ht⟩
      clear hx hev ht
      go_wp2_with (go_at_call 80; refine (hS.out _ hb1).mono ?_; rintro r w2 ⟨N, rfl, _, _, hb2⟩)
      go_ret2
      exact ⟨v, _, rfl, hp N, hb1.trans (hb2.mono hb1.size)⟩
end Go.Proofs.YtkeiehgojclecaaDoor
