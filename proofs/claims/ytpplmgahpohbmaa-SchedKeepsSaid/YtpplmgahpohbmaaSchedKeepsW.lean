/- The law SchedKeeps: the walk. -/
import Derived.Test.YtpplmgahpohbmaaSchedKeepsP
import Derived.IntWalk
namespace Go.Proofs.Ytpplmgahpohbmaa
open Go.RowKit Fl
attribute [local go_sem ↓] Go.wp_at_zero Go.wp_at_succ
attribute [local go_sem high] run_cut_l run_cut_h run_cut_lh run_max_n run_min_n

/-- An owned row of numbered steps. -/
def OwnM (B : Nat) (w : World) (v : Value) (c : Int) (N j : Nat) : Prop := w.ownsRow B 31 6 v N (flatC (markL c N j))
theorem OwnM.below {B : Nat} {w w' : World} {v : Value} {c : Int} {N j : Nat} (h : OwnM B w v c N j) (hb : Below w.heap.size w w') : OwnM B w' v c N j := by
  have h1 : OwnC 31 B w v (markL c N j) := by show w.ownsRow _ _ _ _ _ _; rw [markL_length]; exact h
  have h2 := h1.later hb
  have h3 : w'.ownsRow B 31 6 v (markL c N j).length (flatC (markL c N j)) := h2
  rw [markL_length] at h3
  exact h3
theorem OwnM.rd {B : Nat} {w : World} {v : Value} {c : Int} {N j : Nat} (h : OwnM B w v c N j) : RdC w v (markL c N j) := (RdS.of_own h).c
/-- The next one is numbered. -/
theorem OwnM.mark {B : Nat} {w : World} {g cap : Nat} {c : Int} {N j : Nat} (h : OwnM B w (.slice (some ⟨g, 0, .none⟩) N cap) c N j) (hj : j < N) :
    OwnM B (w.setCell ⟨g, j * 6 + 3, .none⟩ (.int .i64 j)) (.slice (some ⟨g, 0, .none⟩) N cap) c N (j + 1) ∧ w.grownBy (w.setCell ⟨g, j * 6 + 3, .none⟩ (.int .i64 j)) (some g) := by
  have := World.ownsRow.stored h (j * 6 + 3) (.int .i64 j)
  rw [flatC_markL c N j hj] at this
  exact this
theorem OwnM.other {B : Nat} {w w' : World} {v : Value} {g : Nat} {c : Int} {N j : Nat} (h : OwnM B w v c N j) (hg : w.grownBy w' (some g)) (hne : v.ownBlock ≠ some g) : OwnM B w' v c N j := by
  refine ⟨h.1, ?_⟩
  rcases h.2 with hn | ⟨g', cap, cur, rfl, h1, h2, r⟩
  · exact .inl hn
  · exact .inr ⟨g', cap, cur, rfl, h1, by rw [hg.block g' (Array.getElem?_eq_some_iff.1 h2).1 (fun e => hne (by simpa [Value.ownBlock] using e))]; exact h2, r⟩
theorem OwnM.form {B : Nat} {w : World} {v : Value} {c : Int} {N j : Nat} (h : OwnM B w v c N j) (hN : 0 < N) : ∃ g cap, v = .slice (some ⟨g, 0, .none⟩) N cap ∧ B ≤ g ∧ g < w.heap.size ∧ (∀ i, i < N * 6 → ∃ u, w.cell? ⟨g, i, .none⟩ = some u) ∧ (∀ i, w.frozen? ⟨g, i, .none⟩ = false) ∧ N ≤ cap ∧ (cap : Int) ≤ 9223372036854775807 := by
  rcases h.2 with ⟨_, hn⟩ | ⟨g, cap, cur, rfl, h1, h2, h3, h4, h5, _⟩
  · omega
  · refine ⟨g, cap, rfl, h1, (Array.getElem?_eq_some_iff.1 h2).1, fun i hi => ?_, fun i => rowFree h2 i, h3, by simp only [maxLen] at h4; omega⟩
    have : i < cur.size := by rw [h5]; have := Nat.mul_le_mul_right 6 h3; omega
    exact ⟨cur[i], by rw [rowCells h2]; exact Array.getElem?_eq_getElem this⟩

set_option maxRecDepth 100000 in
set_option maxHeartbeats 2000000 in
theorem schedKeeps_any (n0 n1 : Nat) (l : List Bool) (vl : Value) (t : Int) (w : World) (hl : RdBo w vl l) (hn0 : n0 ≤ 255) (hn1 : n1 ≤ 255) (ht0 : -9223372036854775808 ≤ t) (ht1 : t ≤ 9223372036854775807) :
    Calls Try.prog 4 #[.agg #[.int .u8 n0, .int .u8 n1], vl, .int .i64 t] w fun e w' => e = .returned (.bool true) ∧ Below w.heap.size w w' := by
  obtain ⟨ao, cap, e, hcap, hcm, _⟩ := id hl.cells
  subst e
  by_cases hlong : 600 < l.length
  · have h1 : (600 : Int) < (l.length : Int) := by omega
    go_enter Try.func4, Try.ntmps4
    go_wp2_with (go_at_call 7; refine (awake_any _).mono ?_; rintro e w1 ⟨rfl, hb1⟩)
    go_ret
    exact ⟨rfl, ((Below.refl _ _).alloc (Nat.le_refl _) _).trans (hb1.mono (by simp))⟩
  · obtain ⟨m, hm, hm'⟩ := nm l.length
    have hl' := hl
    rw [← hm'] at hcap hlong hl' ⊢
    clear hm'
    have hlong : m ≤ 600 := by omega
    go_enter Try.func4, Try.ntmps4
    go_wp2_with fail
    refine (awake_any _).mono ?_
    rintro e w1 ⟨rfl, hb1⟩
    have ha0 : Below w.heap.size w (w.alloc (.cells #[.int .u8 n0, .int .u8 n1] 36)) := (Below.refl _ _).alloc (Nat.le_refl _) _
    have hbox : w1.heap[w.heap.size]? = some (.cells #[.int .u8 n0, .int .u8 n1] 36 (0, 0)) := (hb1.block _ (by simp)).trans (heap_alloc_new w _)
    have hb01 : Below w.heap.size w w1 := ha0.trans (hb1.mono (by simp))
    have hs01 : w.heap.size < w1.heap.size := (Array.getElem?_eq_some_iff.1 hbox).1
    have c0 : w1.cell? ⟨w.heap.size, 0, .none⟩ = some (.int .u8 n0) := rowCells hbox 0
    have c1 : w1.cell? ⟨w.heap.size, 1, .none⟩ = some (.int .u8 n1) := rowCells hbox 1
    replace hbox := Lib.hid hbox
    clear ha0
    go_wp2_with fail
    have hw0 : IntKind.i64.wrap (n0 : Int) = n0 := IntWalk.i64_in _ (by omega)
    have hw1 : IntKind.i64.wrap (n1 : Int) = n1 := IntWalk.i64_in _ (by omega)
    go_region_held3 (fun w' => w'.cell? ⟨w.heap.size, 0, .none⟩ = some (.int .u8 n0) ∧ w'.cell? ⟨w.heap.size, 1, .none⟩ = some (.int .u8 n1))
      (first | go_keep | exact ⟨keepF hb2 _ _ _ c0, keepF hb2 _ _ _ c1⟩ | exact ⟨keepF hb13 _ _ _ c0, keepF hb13 _ _ _ c1⟩)
      (first
        | (go_at_call 10; (with_reducible refine (alone_any 1 n0 _ (by omega) (by omega)).mono ?_); rintro e w2 ⟨v2, rfl, hb2, ho2⟩; have hb2 : Below w1.heap.size w1 w2 := (below_drewN (Below.refl _ _) 1).trans hb2)
        | (go_at_call 10; (with_reducible refine (alone_any 2 n1 _ (by omega) (by omega)).mono ?_); rintro e w3 ⟨v3, rfl, hb3, ho3⟩; have hb13 : Below w1.heap.size w1 w3 := hb2.trans (hb3.mono hb2.size)))
    clear hw0 hw1
    have hs2 := hb2.size
    have hs3 := hb13.size
    have ea : turnsR [1] (n0 : Int) = markL 1 n0 0 := (turnsR_eq [1] n0 (by simp; omega)).trans (markL_zero _ _)
    have eb : turnsR [2] (n1 : Int) = markL 2 n1 0 := (turnsR_eq [2] n1 (by simp; omega)).trans (markL_zero _ _)
    rw [ea] at ho2
    rw [eb] at ho3
    have oa : OwnM w1.heap.size w2 v2 1 n0 0 := by have h : w2.ownsRow _ _ 6 _ (markL 1 n0 0).length _ := ho2; rw [markL_length] at h; exact h
    have ob : OwnM w2.heap.size w3 v3 2 n1 0 := by have h : w3.ownsRow _ _ 6 _ (markL 2 n1 0).length _ := ho3; rw [markL_length] at h; exact h
    have oa3 := oa.below hb3
    clear ho2 ho3 ea eb
    have hg2 : ∀ g, v2.ownBlock = some g → w1.heap.size ≤ g ∧ g < w2.heap.size := fun g e => oa.lt g e
    have hg3 : ∀ g, v3.ownBlock = some g → w2.heap.size ≤ g := fun g e => (ob.lt g e).1
    have hne : ∀ g, v2.ownBlock = some g → v3.ownBlock ≠ some g := fun g e e' => by have := hg2 g e; have := hg3 g e'; omega
    have hne' : ∀ g, v3.ownBlock = some g → v2.ownBlock ≠ some g := fun g e e' => by have := hg2 g e'; have := hg3 g e; omega
    obtain ⟨a2, c2, e2, hc2, hcm2, _⟩ := RdS.of_own oa3
    obtain ⟨a3, c3, e3, hc3, hcm3, _⟩ := RdS.of_own ob
    subst e2 e3
    replace hne := Lib.hid hne
    replace hne' := Lib.hid hne'
    replace hg2 := Lib.hid hg2
    replace hg3 := Lib.hid hg3
    go_wp2_with fail
    go_loopw [9] (fun vi wr => ∃ j : Nat, j ≤ n0 ∧ vi = .int .i64 j ∧ OwnM w1.heap.size wr (.slice a2 n0 c2) 1 n0 j ∧ OwnM w2.heap.size wr (.slice a3 n1 c3) 2 n1 0 ∧ Below w1.heap.size w1 wr) (fun vi _ => n0 - (intOf vi).toNat)
    case atStart => exact ⟨0, Nat.zero_le _, rfl, oa3, ob, hb13⟩
    case round =>
      obtain ⟨j, hj, rfl, oa4, ob4, hb4⟩ := hrel
      by_cases hlt : j < n0
      · obtain ⟨g, cap', ev, hg, hgs, hcell, hfr, _, _⟩ := oa4.form (by omega)
        injection ev with ev1 ev2 ev3
        subst ev1 ev3
        clear ev2
        obtain ⟨u, hu⟩ := hcell (j * 6 + 2 + 1) (by omega)
        have hf := hfr (j * 6 + 2 + 1)
        obtain ⟨k1, k2⟩ := oa4.mark hlt
        have k3 := ob4.other k2 (hne.out g rfl)
        have hj0 : (0 : Int) ≤ (j : Int) := by omega
        have hjn : (j : Int) < (n0 : Int) := by omega
        have k4 := hb4.setCell (p := ⟨g, j * 6 + 3, .none⟩) hg (.int .i64 j)
        clear hcell hfr
        go_wp2
        exact ⟨⟨j + 1, by omega, by go_num, k1, k3, k4⟩, by simp [intOf]; omega⟩
      · have hje : j = n0 := by omega
        subst hje
        have hj0 : ¬ ((j : Int) < (j : Int)) := by omega
        have hb14 := hb4
        clear hlt
        obtain ⟨wo, rfl⟩ : ∃ wo : World, wo = wr := ⟨_, rfl⟩
        go_wp2_with fail
        go_loopw [10] (fun vi wr => ∃ q : Nat, q ≤ n1 ∧ vi = .int .i64 q ∧ OwnM w1.heap.size wr (.slice a2 j c2) 1 j j ∧ OwnM w2.heap.size wr (.slice a3 n1 c3) 2 n1 q ∧ Below w1.heap.size w1 wr) (fun vi _ => n1 - (intOf vi).toNat)
        case atStart => exact ⟨0, Nat.zero_le _, rfl, oa4, ob4, hb4⟩
        case round =>
          obtain ⟨q, hq, rfl, oa5, ob5, hb5⟩ := hrel
          by_cases hlt : q < n1
          · obtain ⟨g, cap', ev, hg, hgs, hcell, hfr, _, _⟩ := ob5.form (by omega)
            injection ev with ev1 ev2 ev3
            subst ev1 ev3
            clear ev2
            obtain ⟨u, hu⟩ := hcell (q * 6 + 2 + 1) (by omega)
            have hf := hfr (q * 6 + 2 + 1)
            obtain ⟨k1, k2⟩ := ob5.mark hlt
            have k3 := oa5.other k2 (hne'.out g rfl)
            have hj0 : (0 : Int) ≤ (q : Int) := by omega
            have hjn : (q : Int) < (n1 : Int) := by omega
            have k4 := hb5.setCell (p := ⟨g, q * 6 + 3, .none⟩) (by show w1.heap.size ≤ g; omega) (.int .i64 q)
            clear hcell hfr
            go_wp2
            exact ⟨⟨q + 1, by omega, by go_num, k3, k1, k4⟩, by simp [intOf]; omega⟩
          · have hje : q = n1 := by omega
            subst hje
            have hj0 : ¬ ((q : Int) < (q : Int)) := by omega
            clear hlt
            have ra := oa5.rd
            have rb := ob5.rd
            have rl : RdB wr (.slice ao m cap) l := hl'.below (hb01.trans (hb5.mono (by omega)))
            have hb05 : Below w.heap.size w wr := hb01.trans (hb5.mono (by omega))
            have hs5 := hb05.size
            clear hne hne' hg2 hg3 oa ob oa3 oa4 ob4 ob5 oa5
            go_wp2_with fail
            refine (weave_any _ _ l _ _ _ _ ra rb rl (by rw [markL_length, markL_length]; omega)).mono ?_
            rintro e w6 ⟨v6, rfl, hb6, ho6⟩
            obtain ⟨L, hL⟩ : ∃ L, L = weaveL (markL 1 j j) (markL 2 q q) l := ⟨_, rfl⟩
            have hat := weave_at j q l
            obtain ⟨f1, f2⟩ := weave_filter isOne (markL 1 j j) (markL 2 q q) l (fun c hc => by simp [isOne, (markL_mem hc).1]) (fun c hc => by simp [isOne, (markL_mem hc).1])
            have hfit : ∀ c ∈ L, c.fit := fun c hc => by
              rw [hL] at hc
              have : c.bias = 0 := (weave_mem _ _ _ hc).elim (fun h => (markL_mem h).2) (fun h => (markL_mem h).2)
              show c.bias < _
              rw [this]; decide
            rw [← hL] at ho6 hat f1 f2
            have r6 := ho6.rd
            obtain ⟨a6, c6, e6, hc6, hcm6, hrow6⟩ := id r6
            obtain ⟨n, hn, hn'⟩ := nm L.length
            have hnl : n = j + q := by rw [hn', hL, weaveL_length, markL_length, markL_length]
            rw [← hn'] at e6 hc6
            subst e6
            have r6' := r6
            replace hat := Lib.hid hat
            replace f1 := Lib.hid f1
            replace f2 := Lib.hid f2
            replace hrow6 := Lib.hid hrow6
            replace hnl := Lib.hid hnl
            have hnb : n ≤ 510 := by rw [hnl.out]; omega
            replace hL := Lib.hid hL
            have hb16 : Below w1.heap.size w1 w6 := hb5.trans (hb6.mono hb5.size)
            have hb06 : Below w.heap.size w w6 := hb01.trans (hb16.mono (by omega))
            have c06 := keepF hb16 _ _ _ c0
            have c16 := keepF hb16 _ _ _ c1
            clear ho6 hn'
            go_wp2_with fail
            go_loopw [12, 13, 14] (fun vx vy vi wr => ∃ i : Nat, i ≤ n ∧ vi = .int .i64 i ∧ vx = .int .i64 ((L.take i).filter isOne).length ∧ vy = .int .i64 ((L.take i).filter (fun c => !isOne c)).length ∧ w6 = wr) (fun _ _ vi _ => n - (intOf vi).toNat)
            case atStart => exact ⟨0, Nat.zero_le _, rfl, rfl, rfl, rfl⟩
            case round =>
              obtain ⟨i, hi, rfl, rfl, rfl, rfl⟩ := hrel
              by_cases hlt : i < n
              · have hiL : i < L.length := hn.out ▸ hlt
                obtain ⟨h1, h2⟩ := hat.out i hiL
                obtain ⟨b, off, rfl, hb, x0, x1, x2, x3, x4, x5⟩ := r6'.nth i hiL
                have ht := List.take_succ_eq_append_getElem hiL
                have ht1 : ((L.take (i + 1)).filter isOne).length = ((L.take i).filter isOne).length + (if L[i].client = 1 then 1 else 0) := by
                  rw [ht, List.filter_append, List.length_append]
                  by_cases h : L[i].client = 1 <;> simp [isOne, h]
                have ht2 : ((L.take (i + 1)).filter (fun c => !isOne c)).length = ((L.take i).filter (fun c => !isOne c)).length + (if L[i].client = 1 then 0 else 1) := by
                  rw [ht, List.filter_append, List.length_append]
                  by_cases h : L[i].client = 1 <;> simp [isOne, h]
                have hb1 : ((L.take i).filter isOne).length ≤ i := Nat.le_trans (List.length_filter_le _ _) (List.length_take_le _ _)
                have hb2 : ((L.take i).filter (fun c => !isOne c)).length ≤ i := Nat.le_trans (List.length_filter_le _ _) (List.length_take_le _ _)
                have hi0 : (0 : Int) ≤ (i : Int) := by omega
                have hin : (i : Int) < (n : Int) := by omega
                generalize L[i] = c at *
                generalize ((L.take i).filter isOne).length = X at *
                generalize ((L.take i).filter (fun c => !isOne c)).length = Y at *
                obtain ⟨d0, d1, d2, d3, d4, d5⟩ := c
                simp only at h1 h2 ht1 ht2 x0 x1 x2 x3 x4 x5
                clear ht
                by_cases hc : d1 = 1
                · obtain rfl := hc
                  obtain rfl := h1 rfl
                  rw [if_pos rfl] at ht1 ht2
                  replace ht1 := Lib.hid ht1
                  replace ht2 := Lib.hid ht2
                  clear h1 h2
                  go_wp2
                  exact ⟨⟨i + 1, by omega, by go_num, by rw [ht1.out]; go_num, by rw [ht2.out, Nat.add_zero], by first | rfl | trivial⟩, by simp [intOf]; omega⟩
                · obtain rfl := h2 hc
                  rw [if_neg hc] at ht1 ht2
                  replace ht1 := Lib.hid ht1
                  replace ht2 := Lib.hid ht2
                  have hcb : (d1 == 1) = false := by rw [beq_eq_false_iff_ne]; exact hc
                  clear h1 h2
                  go_wp2
                  exact ⟨⟨i + 1, by omega, by go_num, by rw [ht1.out, Nat.add_zero], by rw [ht2.out]; go_num, by first | rfl | trivial⟩, by simp [intOf]; omega⟩
              · have hie : i = n := by omega
                subst hie
                have hj0 : ¬ ((i : Int) < (i : Int)) := by omega
                clear hlt
                have hLn : L.length ≤ i := by rw [← hn.out]; exact Nat.le_refl _
                have eX : ((L.take i).filter isOne).length = j := by rw [List.take_of_length_le hLn, f1.out, markL_length]
                have eY : ((L.take i).filter (fun c => !isOne c)).length = q := by rw [List.take_of_length_le hLn, f2.out, markL_length]
                have hkk := cutK_le L t
                have hcutl := cutL_length L t 7
                have hcuta := cutL_at L t 7
                have hback := cut_back L t 7
                have hcfit : ∀ c ∈ cutL L t 7, c.fit := fun c hc => by
                  rcases List.mem_append.1 hc with h | h
                  · exact hfit c (List.mem_of_mem_take h)
                  · rcases List.mem_cons.1 h with rfl | h
                    · show (0 : Nat) < _; decide
                    · exact hfit c (List.mem_of_mem_drop h)
                have hkI : max 0 (min t (i : Int)) = ((cutK L t : Nat) : Int) := by rw [hn.out]; unfold cutK; omega
                rw [← hn.out] at hkk hcutl
                replace hcuta := Lib.hid hcuta
                replace hback := Lib.hid hback
                replace hcutl := Lib.hid hcutl
                replace hcfit := Lib.hid hcfit
                clear f1 f2 hat
                go_wp2_with fail
                refine (cut_any L _ t 7 _ r6 (by rw [← hn.out]; omega) ht0 ht1).mono ?_
                rintro e w7 ⟨v7, rfl, hb7, ho7⟩
                have hb07 : Below w.heap.size w w7 := hb06.trans (hb7.mono hb06.size)
                have hb17 : Below w1.heap.size w1 w7 := hb16.trans (hb7.mono hb16.size)
                have c07 := keepF hb17 _ _ _ c0
                have c17 := keepF hb17 _ _ _ c1
                have r67 := r6.below hb7
                have r7 := ho7.rd
                clear ho7
                obtain ⟨D, hD⟩ : ∃ D, D = cutL L t 7 := ⟨_, rfl⟩
                obtain ⟨k, hk, hk'⟩ := nm (cutK L t)
                rw [← hD] at r7 hcuta hback hcutl hcfit
                rw [← hk'] at hcuta hback hkk hkI
                obtain ⟨a7, c7, e7, hc7, hcm7, hrow7⟩ := id r7
                rw [hcutl.out] at e7 hc7
                subst e7
                have hkD : k < D.length := by rw [hcutl.out]; omega
                obtain ⟨b, off, rfl, hb, x0, x1, _, _, _, _⟩ := r7.nth k hkD
                have hDk : D[k] = killC 7 := by
                  have := hcuta.out
                  rw [List.getElem?_eq_getElem hkD] at this
                  exact Option.some.inj this
                rw [hDk] at x0 x1
                replace x0 : w7.cell? ⟨b, off + k * 6, .none⟩ = some (.int .i64 4) := x0
                replace x1 : w7.cell? ⟨b, off + k * 6 + 1, .none⟩ = some (.int .i64 7) := x1
                replace hrow7 := Lib.hid hrow7
                replace hD := Lib.hid hD
                have hk0 : (0 : Int) ≤ (k : Int) := by omega
                have hki : (k : Int) ≤ (i : Int) := by omega
                have hki1 : (k : Int) < (i : Int) + 1 := by omega
                have hki2 : (k : Int) < ((i + 1 : Nat) : Int) := by omega
                have hs7 := hb07.size
                clear hk' hDk
                obtain ⟨i0, hi0, hz0, hz1, hz2⟩ := info_parts infoCh
                have own0 : (w7.alloc (.cells #[] 31)).ownsRow w7.heap.size 31 6 (.slice (some ⟨w7.heap.size, 0, .none⟩) 0 0) 0 [] := World.ownsRow_lit w7 #[] 0 (Nat.le_refl _) (Nat.zero_le _) rfl
                have cA := (r7.cut (l := 0) (h := k) (Nat.zero_le _) (by omega)).s
                have cB := (r7.cut (l := k + 1) (h := i + 1) (by omega) (by omega)).s
                have hDl : D.length = i + 1 := hcutl.out
                have eA : (D.drop 0).take (k - 0) = D.take k := by rw [List.drop_zero, Nat.sub_zero]
                have eB : (D.drop (k + 1)).take (i + 1 - (k + 1)) = D.drop (k + 1) := List.take_of_length_le (by rw [List.length_drop, hDl]; omega)
                have lA : (D.take k).length = k := by rw [List.length_take]; omega
                have lB : (D.drop (k + 1)).length = i - k := by rw [List.length_drop, hDl]; omega
                rw [eA, lA] at cA
                rw [eB, lB] at cB
                replace cA : ∀ w', Below w7.heap.size w7 w' → RdS w' 6 (cutV (some ⟨b, off, .none⟩) 0 k c7 6) k (flatC (D.take k)) := fun w' h => cA.below h
                replace cB : ∀ w', Below w7.heap.size w7 w' → RdS w' 6 (cutV (some ⟨b, off, .none⟩) (k + 1) (i + 1) c7 6) (i - k) (flatC (D.drop (k + 1))) := fun w' h => cB.below h
                have hown : ∀ (w' : World) (v : Value), w'.ownsRow w7.heap.size 31 6 v (0 + k + (i - k)) ([] ++ flatC (D.take k) ++ flatC (D.drop (k + 1))) → RdC w' v L := fun w' v h => by
                  rw [Nat.zero_add, List.nil_append, ← flatC_append, hback.out] at h
                  exact (RdS.of_own h).c
                have hsame : ∀ (w' : World) (v : Value), RdC w' v L → Below w7.heap.size w7 w' → Calls Try.prog 11 #[v, .slice a6 i c6] w' fun e w'' => e = .returned (.bool true) ∧ Below w'.heap.size w' w'' := fun w' v h hb => by
                  have := same_row L L v _ w' h (r67.below hb) hfit hfit
                  rwa [sameL_refl] at this
                replace cA := Lib.hid cA
                replace cB := Lib.hid cB
                replace hown := Lib.hid hown
                replace hsame := Lib.hid hsame
                clear eA eB lA lB hDl
                go_wp2_with fail
                have hwk : IntKind.i64.wrap ((k : Int) + 1) = (k : Int) + 1 := IntWalk.i64_in _ (by omega)
                have hwk0 : (0 : Int) ≤ (k : Int) + 1 := by omega
                have hwk1 : ((k : Int) + 1).toNat = k + 1 := by omega
                have hwk2 : (k : Int) + 1 ≤ (i : Int) + 1 := by omega
                have hwk3 : (k : Int) + 1 ≤ ((i + 1 : Nat) : Int) := by omega
                have hkc7 : (k : Int) ≤ (c7 : Int) := by omega
                go_region_held3 (fun _ => True) (trivial)
                  (first
                    | (refine step_append_rd (by rfl) (.tmp 134) (.tmp 137) 25 (by rfl) w7.heap.size 31 i0 _ 6 48 Try.underlying25 hi0 hz0 hz1 hz2 rfl (by omega) _ 0 [] (by rfl) own0.drew
                        _ _ _ (by rfl) (cA.out _ (((Below.refl _ _).alloc (Nat.le_refl _) _).drew)) (flat_one _) (by simp only [maxLen]; omega) (by omega) (by simp) ?_; intro v8 w8 hown8 hgrow8 hat8; have hbr8 := grown_belowS (((Below.refl w7.heap.size w7).alloc (Nat.le_refl _) _).drew) own0.drew (by simp) hgrow8; have hbs8 := hbr8.size)
                    | (refine step_append_rd (by rfl) (.tmp 138) (.tmp 142) 25 (by rfl) w7.heap.size 31 i0 _ 6 48 Try.underlying25 hi0 hz0 hz1 hz2 rfl (by omega) _ _ _ (by rfl) hown8
                        _ _ _ (by rfl) (cB.out _ hbr8) (flat_one _) (by simp only [maxLen]; omega) (by omega) hbs8 ?_; intro v9 w9 hown9 hgrow9 hat9; have hbr9 := grown_belowS hbr8 hown8 hbs8 hgrow9; have hbs9 := hbr9.size)
                    | (go_at_call 11; refine (hsame.out _ _ (hown.out _ _ hown9) hbr9).mono ?_; rintro e w10 ⟨rfl, hb10⟩))
                go_wp2
                go_ret
                exact ⟨rfl, hb07.trans ((hbr9.trans (hb10.mono hbs9)).mono hs7)⟩
end Go.Proofs.Ytpplmgahpohbmaa
