/- The law's awake: a script is read. -/
import Derived.Test.YtkeiehgojclecaaDoorScrI

namespace Go.Proofs.YtkeiehgojclecaaDoor

open Go.RowKit

attribute [local go_sem ↓] Go.wp_at_zero Go.wp_at_succ

theorem num0 : numO [48] = some 0 := (numO_iff _ _).2 ⟨by simp [Lib.itoa, Lib.decDigits], by decide, by decide⟩
theorem num1 : numO [49] = some 1 := (numO_iff _ _).2 ⟨by simp [Lib.itoa, Lib.decDigits], by decide, by decide⟩
theorem numm1 : numO [45, 49] = some (-1) := (numO_iff _ _).2 ⟨by simp [Lib.itoa, Lib.decDigits], by decide, by decide⟩
abbrev awakeL : List UInt8 := [104, 101, 97, 112, 32, 49, 32, 49, 32, 48, 10, 115, 116, 97, 114, 116, 32, 48, 32, 110, 97, 110, 10, 102, 114, 101, 101, 32, 48, 32, 45, 49, 10]
theorem awake_spl : spl 10 awakeL = [[104, 101, 97, 112, 32, 49, 32, 49, 32, 48], [115, 116, 97, 114, 116, 32, 48, 32, 110, 97, 110], [102, 114, 101, 101, 32, 48, 32, 45, 49], []] := by decide +kernel
theorem awake_h : heapO [104, 101, 97, 112, 32, 49, 32, 49, 32, 48] = some (1, 1, 0) := by
  have h1 : spl 32 [104, 101, 97, 112, 32, 49, 32, 49, 32, 48] = [[104, 101, 97, 112], [49], [49], [48]] := by decide +kernel
  unfold heapO
  rw [h1]
  simp [numsO, num0, num1]
theorem awake_1 : lineO [115, 116, 97, 114, 116, 32, 48, 32, 110, 97, 110] = some ⟨1, 0, 0, 0, 0, nanV⟩ := by
  have h1 : spl 32 [115, 116, 97, 114, 116, 32, 48, 32, 110, 97, 110] = [[115, 116, 97, 114, 116], [48], [110, 97, 110]] := by decide +kernel
  unfold lineO
  rw [h1]
  simp [wordsO, startO, num0, rdO]
theorem awake_2 : lineO [102, 114, 101, 101, 32, 48, 32, 45, 49] = some ⟨2, 0, 2, -1, 0, 0⟩ := by
  have h1 : spl 32 [102, 114, 101, 101, 32, 48, 32, 45, 49] = [[102, 114, 101, 101], [48], [45, 49]] := by decide +kernel
  unfold lineO
  rw [h1]
  simp [wordsO, opO, numsO, num0, numm1, opV]
theorem awake_parse : parseO awakeL = ((1, 1, 0), [⟨1, 0, 0, 0, 0, nanV⟩, ⟨2, 0, 2, -1, 0, 0⟩], 0, 0) := by
  unfold parseO
  rw [awake_spl, if_neg (by decide)]
  simp [goO, awake_h, awake_1, awake_2]
set_option maxRecDepth 100000 in
set_option maxHeartbeats 400000 in
theorem awake25_any (w : World) (h : Laid w) :
    Calls Tryd.prog 8 #[] w fun e w' => e = .returned (.bool true) ∧ Below w.heap.size w w' := by
  have hp := parse_any awakeL (by decide) w h
  rw [awake_parse] at hp
  have hp2 := Lib.hid hp
  clear hp
  go_enter Tryd.func8, Tryd.ntmps8
  go_upto_region 2 with (go_at_call 11; refine hp2.out.mono ?_; rintro r w1 ⟨⟨v, rfl, hrd⟩, hb1⟩)
  obtain ⟨ao, cap, rfl, _, _, _⟩ := id hrd
  have hba := (Below.refl w1.heap.size w1).alloc (Nat.le_refl _) (.cells #[.int .i64 1, .int .i64 1, .int .i64 0] 26)
  obtain ⟨b, off, rfl, hbw, y0, y1, y2, y3, y4, y5⟩ := hrd.nth 1 (by decide)
  have x2 : ∀ o, (w1.alloc o).cell? ⟨b, off + 8, .none⟩ = some (.int .i64 2) := fun o => (((Below.refl w1.heap.size w1).alloc (Nat.le_refl _) o).cell (p := ⟨b, off + 8, .none⟩) hbw).trans y2
  have x3 : ∀ o, (w1.alloc o).cell? ⟨b, off + 9, .none⟩ = some (.int .i64 (-1)) := fun o => (((Below.refl w1.heap.size w1).alloc (Nat.le_refl _) o).cell (p := ⟨b, off + 9, .none⟩) hbw).trans y3
  have hbe := hb1.trans (hba.mono hb1.size)
  clear y0 y1 y2 y3 y4 y5 hrd hba hp2
  go_wp2_with fail
  go_ret
  exact ⟨rfl, hbe⟩
end Go.Proofs.YtkeiehgojclecaaDoor
