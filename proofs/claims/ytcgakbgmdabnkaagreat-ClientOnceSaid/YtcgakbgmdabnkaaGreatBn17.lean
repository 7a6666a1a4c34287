/- What the machines that are made of others keep: Runner, Reserver, Committer, Undoer, Freer, Renewer, Adopter. Plain. -/
import Derived.Test.YtcgakbgmdabnkaaGreatBn6

set_option linter.all false
namespace Go.Proofs.YtcgakbgmdabnkaaGreat

/-- What a Runner keeps. -/
structure rnOk (s : Sh) (t : Rn) : Prop where
  cl : t.done = false → (0 ≤ t.c ∧ t.c < s.c) ∧ (1 ≤ t.pages ∧ t.pages ≤ 8) ∧ (0 ≤ t.head ∧ t.head + t.pages ≤ s.p) ∧ (t.head ≤ t.at' ∧ t.at' ≤ t.head + t.pages) ∧ (0 ≤ t.next ∧ t.next ≤ 5) ∧
    (t.next ≠ 5 → t.at' < t.head + t.pages) ∧ (t.next = 2 → ∃ x, t.strip = some x ∧ spOk s x ∧ x.done = false) ∧ (t.next = 3 → 0 ≤ t.i ∧ t.i < 16) ∧ (t.next = 4 → t.head < t.i ∧ t.i ≤ t.at') ∧ (t.next = 5 → t.head < t.i ∧ t.i < t.head + t.pages)
  fd : t.found = true → t.done = true ∧ (1 ≤ t.pages ∧ t.pages ≤ 8) ∧ (0 ≤ t.head ∧ t.head + t.pages ≤ s.p)
theorem rnNew_ok (s : Sh) (c n : Int) : rnOk s (rnNew s c n) := by
  refine ⟨fun h => ?_, fun h => (by cases h)⟩
  simp only [rnNew, Bool.not_eq_false', Bool.and_eq_true, decide_eq_true_eq] at h ⊢
  obtain ⟨⟨⟨h1, h2⟩, h3⟩, h5⟩ := h
  have h4 := statusIx_ok h1
  refine ⟨by omega, by omega, by omega, by omega, by omega, fun _ => by omega, fun e => (by cases e), fun e => (by cases e), fun e => (by cases e), fun e => (by cases e)⟩
theorem rnWritten_ok {s : Sh} {t : Rn} (hf : t.found = false) (h1 : 0 ≤ t.c ∧ t.c < s.c) (h2 : 1 ≤ t.pages ∧ t.pages ≤ 8) (h3 : 0 ≤ t.head ∧ t.head + t.pages ≤ s.p) (h4 : t.head ≤ t.at' ∧ t.at' ≤ t.head + t.pages) (h5 : t.next = 5) (h6 : t.head ≤ t.i ∧ t.i < t.head + t.pages) : rnOk s t.written := by
  unfold Rn.written
  split
  · exact ⟨fun e => (by cases e), fun _ => ⟨rfl, h2, h3⟩⟩
  · refine ⟨fun _ => ⟨h1, h2, h3, h4, by dsimp only; omega, fun e => ?_, fun e => ?_, fun e => ?_, fun e => ?_, fun _ => ?_⟩, fun e => ?_⟩
    · dsimp only at e; omega
    · dsimp only at e; omega
    · dsimp only at e; omega
    · dsimp only at e; omega
    · dsimp only; omega
    · dsimp only at e; rw [hf] at e; cases e
theorem rnOwn_ok {s : Sh} {t : Rn} (hf : t.found = false) (h1 : 0 ≤ t.c ∧ t.c < s.c) (h2 : 1 ≤ t.pages ∧ t.pages ≤ 8) (h3 : 0 ≤ t.head ∧ t.head + t.pages ≤ s.p) (h4 : t.head ≤ t.at' ∧ t.at' < t.head + t.pages) : rnOk s t.own := by
  unfold Rn.own
  split
  · exact rnWritten_ok hf h1 h2 h3 (by dsimp only; omega) rfl (by dsimp only; omega)
  · refine ⟨fun _ => ⟨h1, h2, h3, by dsimp only; omega, by dsimp only; omega, fun _ => by dsimp only; omega, fun e => (by cases e), fun e => (by cases e), fun e => (by cases e), fun e => (by cases e)⟩, fun e => ?_⟩
    dsimp only at e; rw [hf] at e; cases e
theorem rnGone_ok {s : Sh} {t : Rn} (hf : t.found = false) (hd : t.done = false) (h1 : 0 ≤ t.c ∧ t.c < s.c) (h2 : 1 ≤ t.pages ∧ t.pages ≤ 8) (h3 : 0 ≤ t.head ∧ t.head + t.pages ≤ s.p) (h4 : t.head ≤ t.at' ∧ t.at' < t.head + t.pages) (h5 : t.next = 4) (h6 : t.i ≤ t.at') : rnOk s (t.gone s) := by
  unfold Rn.gone
  split
  · refine ⟨fun _ => ⟨h1, h2, h3, by omega, by omega, fun _ => h4.2, fun e => by omega, fun e => by omega, fun _ => by omega, fun e => by omega⟩, fun e => ?_⟩
    rw [hf] at e; cases e
  · refine ⟨fun e => ?_, fun e => ?_⟩
    · have : ¬ s.p - t.pages < t.at' + 1 := by simpa using e
      exact ⟨h1, h2, by dsimp only; omega, by dsimp only; omega, by dsimp only; omega, fun _ => by dsimp only; omega, fun e => (by cases e), fun e => (by cases e), fun e => (by cases e), fun e => (by cases e)⟩
    · dsimp only at e; rw [hf] at e; cases e
theorem rnMiss_ok {s : Sh} {t : Rn} (hf : t.found = false) (hd : t.done = false) (h1 : 0 ≤ t.c ∧ t.c < s.c) (h2 : 1 ≤ t.pages ∧ t.pages ≤ 8) (h3 : 0 ≤ t.head ∧ t.head + t.pages ≤ s.p) (h4 : t.head ≤ t.at' ∧ t.at' < t.head + t.pages) : rnOk s (t.miss s) :=
  rnGone_ok hf hd h1 h2 h3 h4 rfl (Int.le_refl _)
theorem rnStep_ok {s : Sh} {t : Rn} (m : Mem) (h : rnOk s t) : rnOk s (rnStep s t m).1 := by
  unfold rnStep
  dsimp only
  split
  · exact h
  · rename_i hd
    have hd : t.done = false := by simpa using hd
    obtain ⟨c1, c2, c3, c4, c5, c6, c7, c8, c9, c10⟩ := h.cl hd
    have hf := not_found h.fd hd
    by_cases n0 : t.next = 0
    · have c6 := c6 (by omega)
      rw [if_pos n0]
      dsimp only
      split
      · refine ⟨fun _ => ⟨c1, c2, c3, c4, by dsimp only; omega, fun _ => c6, fun e => (by cases e), fun e => (by cases e), fun e => (by cases e), fun e => (by cases e)⟩, fun e => ?_⟩
        dsimp only at e; rw [hf] at e; cases e
      · split
        · rename_i hr
          refine ⟨fun _ => ⟨c1, c2, c3, c4, by dsimp only; omega, fun _ => c6, fun _ => ⟨_, rfl, spNew_ok _ _ _ _, ?_⟩, fun e => (by cases e), fun e => (by cases e), fun e => (by cases e)⟩, fun e => ?_⟩
          · have h1 := (readPageB_iff.1 hr.1).2.1
            have h2 := pageIx_ok h1
            have h3 := (readPage_super hr.1 hr.2).2.2
            have h4 : 0 ≤ statusIx s.p s.c s.m t.c := by
              unfold statusIx
              rw [if_pos ⟨h2.1, wi_iff.2 (by omega)⟩]
              exact c1.1
            simp [spNew, h1, h3, h4]
          · dsimp only at e; rw [hf] at e; cases e
        · exact rnMiss_ok hf hd c1 c2 c3 (by omega)
    rw [if_neg n0]
    by_cases n1 : t.next = 1
    · have c6 := c6 (by omega)
      rw [if_pos n1]
      dsimp only
      split
      · exact rnOwn_ok hf c1 c2 c3 (by omega)
      · exact rnMiss_ok hf hd c1 c2 c3 (by omega)
    rw [if_neg n1]
    by_cases n2 : t.next = 2
    · have c6 := c6 (by omega)
      obtain ⟨x, hx, hxo, hxd⟩ := c7 n2
      rw [if_pos n2, hx]
      dsimp only
      split
      · refine ⟨fun _ => ⟨c1, c2, c3, c4, by dsimp only; omega, fun _ => c6, fun e => (by cases e), fun _ => by dsimp only; omega, fun e => (by cases e), fun e => (by cases e)⟩, fun e => ?_⟩
        dsimp only at e; rw [hf] at e; cases e
      · split
        · exact rnMiss_ok hf hd c1 c2 c3 (by dsimp only; omega)
        · rename_i hnd
          refine ⟨fun _ => ⟨c1, c2, c3, c4, c5, fun _ => c6, fun _ => ⟨_, rfl, spStep_ok m hxo, by simpa using hnd⟩, fun e => ?_, fun e => ?_, fun e => ?_⟩, fun e => ?_⟩
          · exact c8 e
          · exact c9 e
          · exact c10 e
          · dsimp only at e; rw [hf] at e; cases e
    rw [if_neg n2]
    by_cases n3 : t.next = 3
    · have c6 := c6 (by omega)
      have c8 := c8 n3
      rw [if_pos n3]
      dsimp only
      split
      · exact rnOwn_ok hf c1 c2 c3 (by dsimp only; omega)
      · refine ⟨fun _ => ⟨c1, c2, c3, c4, c5, fun _ => c6, fun e => absurd e n2, fun _ => by dsimp only; omega, fun e => by dsimp only at e; omega, fun e => by dsimp only at e; omega⟩, fun e => ?_⟩
        dsimp only at e; rw [hf] at e; cases e
    rw [if_neg n3]
    by_cases n4 : t.next = 4
    · have c6 := c6 (by omega)
      have c9 := c9 n4
      rw [if_pos n4]
      exact rnGone_ok hf hd c1 c2 c3 (by dsimp only; omega) n4 (by dsimp only; omega)
    rw [if_neg n4]
    have n5 : t.next = 5 := by omega
    have c10 := c10 n5
    exact rnWritten_ok hf c1 c2 c3 c4 n5 (by omega)
theorem fits_iff {s : Sh} {c : Int} {b : Blk} : b.fits s c = true ↔ mayB s.p s.c s.m = true ∧ (0 ≤ c ∧ c < s.c) ∧ (0 ≤ b.page ∧ b.page < s.p) ∧ (b.large = true → 1 ≤ b.pages ∧ b.pages ≤ 8 ∧ b.pages ≤ s.p - b.page) ∧ (b.large = false → 0 ≤ b.slot ∧ b.slot < slotsV b.k) := by
  unfold Blk.fits
  by_cases h1 : statusIx s.p s.c s.m c < 0
  · rw [if_pos (.inl h1)]
    refine ⟨fun e => (by cases e), fun h => ?_⟩
    have : statusIx s.p s.c s.m c = c := by unfold statusIx; rw [if_pos ⟨h.1, wi_iff.2 (by omega)⟩]
    omega
  · by_cases h2 : pageIx s.p s.c s.m b.page < 0
    · rw [if_pos (.inr h2)]
      refine ⟨fun e => (by cases e), fun h => ?_⟩
      have h3 := mayB_iff.1 h.1
      have : pageIx s.p s.c s.m b.page = s.c + b.page := by unfold pageIx; rw [if_pos ⟨h.1, wi_iff.2 (by omega)⟩]
      omega
    · rw [if_neg (by omega)]
      have h3 := statusIx_ok (by omega : 0 ≤ statusIx s.p s.c s.m c)
      have h4 := pageIx_ok (by omega : 0 ≤ pageIx s.p s.c s.m b.page)
      cases hl : b.large
      · simp only [Bool.false_eq_true, if_false, Bool.and_eq_true, decide_eq_true_eq]
        exact ⟨fun h => ⟨h3.1, h3.2, h4.2, fun e => (by cases e), fun _ => h⟩, fun h => h.2.2.2.2 (by simp)⟩
      · simp only [if_true, Bool.and_eq_true, decide_eq_true_eq]
        exact ⟨fun h => ⟨h3.1, h3.2, h4.2, fun _ => ⟨h.1.1, h.1.2, h.2⟩, fun e => (by cases e)⟩, fun h => by have := h.2.2.2.1 (by simp); exact ⟨⟨this.1, this.2.1⟩, this.2.2⟩⟩
/-- What a Committer keeps. -/
def cmOk (s : Sh) (t : Cm) : Prop := t.done = false → t.b.fits s t.c = true
theorem cmNew_ok (s : Sh) (c : Int) (b : Blk) : cmOk s (cmNew s c b) := fun h => by simpa [cmNew] using h
/-- What an Undoer keeps. -/
structure unOk (s : Sh) (t : Un) : Prop where
  cl : t.done = false → t.b.fits s t.c = true ∧ (t.b.large = true → 0 ≤ t.i ∧ t.i < t.b.pages)
theorem unNew_ok (s : Sh) (c : Int) (b : Blk) : unOk s (unNew s c b) := by
  refine ⟨fun h => ?_⟩
  have h : b.fits s c = true := by simpa [unNew] using h
  refine ⟨h, fun hl => ?_⟩
  have := (fits_iff.1 h).2.2.2.1 hl
  simp only [unNew]; omega
theorem unStep_ok {s : Sh} {t : Un} (m : Mem) (h : unOk s t) : unOk s (unStep s t m).1 := by
  unfold unStep
  split
  · exact h
  · rename_i hd
    obtain ⟨h1, h2⟩ := h.cl (by simpa using hd)
    split
    · exact ⟨fun e => (by cases e)⟩
    · rename_i hl
      have hl : t.b.large = true := by simpa using hl
      have h3 := h2 hl
      split
      · exact ⟨fun e => (by cases e)⟩
      · exact ⟨fun _ => ⟨h1, fun _ => by dsimp only; omega⟩⟩
/-- What a Freer keeps. -/
structure feOk (s : Sh) (t : Fe) : Prop where
  cl : t.done = false → (0 ≤ t.c ∧ t.c < s.c) ∧ (0 ≤ t.page ∧ t.page < s.p) ∧ spB s t.a = true ∧ (0 ≤ t.next ∧ t.next ≤ 4) ∧ (t.next ≤ 1 → t.i = 0) ∧
    (1 ≤ t.next → (t.pk = 3 ∧ 1 ≤ t.pa ∧ t.pa ≤ 8 ∧ t.pa ≤ s.p - t.page) ∨ (t.pk = 2 ∧ 0 < slotsV t.pa ∧ (0 ≤ t.slot ∧ t.slot < slotsV t.pa))) ∧
    (t.next = 1 → 0 ≤ t.word ∧ t.word < 18446744073709551616) ∧ (t.next = 2 → t.pk = 2 ∧ ∃ x, t.put = some x ∧ puOk s x ∧ x.done = false) ∧ (t.next = 3 → t.pk = 2) ∧ (t.next = 4 → t.pk = 3 ∧ 0 ≤ t.i ∧ t.i < t.pa)
theorem spB_iff {s : Sh} {a : Int} : spB s a = true ↔ mayB s.p s.c s.m = true ∧ 0 ≤ a ∧ a < s.p * 64 := by
  unfold spB; simp only [Bool.and_eq_true, wi_iff]
  exact ⟨fun h => ⟨h.1, h.2.1, by omega⟩, fun h => ⟨h.1, h.2.1, by omega⟩⟩
theorem feNew_ok (s : Sh) (c a : Int) : feOk s (feNew s c a) := by
  refine ⟨fun h => ?_⟩
  simp only [feNew, Bool.or_eq_false_iff, Bool.not_eq_false', decide_eq_false_iff_not] at h ⊢
  obtain ⟨h1, h2⟩ := h
  have h3 := spB_iff.1 h1
  have h4 := statusIx_ok (by omega : 0 ≤ statusIx s.p s.c s.m c)
  rw [if_pos h1]
  exact ⟨h4.2, by omega, h1, by omega, (fun _ => by first | rfl | trivial), fun e => by omega, fun e => by omega, fun e => by omega, fun e => by omega, fun e => by omega⟩
theorem feKept_cases (t : Fe) (x : Pu) (hx : t.put = some x) : (x.put = true ∧ t.kept = { t with done := true }) ∨ (x.put = false ∧ x.done = true ∧ t.kept = { t with next := 3 }) ∨ (x.put = false ∧ x.done = false ∧ t.kept = t) := by
  unfold Fe.kept
  rw [hx]
  dsimp only
  cases h1 : x.put
  · cases h2 : x.done
    · exact .inr (.inr ⟨rfl, rfl, by simp⟩)
    · exact .inr (.inl ⟨rfl, rfl, by simp⟩)
  · exact .inl ⟨rfl, by simp⟩
theorem off_slot {off k : Int} (h : 0 ≤ off ∧ off < 64) (hk : 0 < slotsV k) : 0 < sizeV k ∧ 0 ≤ off / sizeV k ∧ off / sizeV k < slotsV k := by
  have h1 := slotsV_ok hk
  have : k = 0 ∨ k = 1 ∨ k = 2 ∨ k = 3 := by omega
  rcases this with rfl | rfl | rfl | rfl
  · rw [show sizeV 0 = 4 from rfl, show slotsV 0 = 16 from rfl]; omega
  · rw [show sizeV 1 = 8 from rfl, show slotsV 1 = 8 from rfl]; omega
  · rw [show sizeV 2 = 16 from rfl, show slotsV 2 = 4 from rfl]; omega
  · rw [show sizeV 3 = 32 from rfl, show slotsV 3 = 2 from rfl]; omega
theorem feStep_ok {s : Sh} {t : Fe} (m : Mem) (hm : m.fit) (h : feOk s t) : feOk s (feStep s t m).1 := by
  unfold feStep
  split
  · exact h
  · rename_i hd
    have hd : t.done = false := by simpa using hd
    obtain ⟨c1, c2, c3, c4, c5, c6, c7, c8, c9, c10⟩ := h.cl hd
    by_cases n0 : t.next = 0
    · rw [if_pos n0]
      unfold Fe.look
      dsimp only
      have hoff : 0 ≤ t.a % 64 ∧ t.a % 64 < 64 := by omega
      split
      · rename_i hb
        have h3 := readPage_large hb.1 hb.2.1
        refine ⟨fun _ => ⟨c1, c2, c3, by dsimp only; omega, fun _ => c5 (by omega), fun _ => .inl ?_, fun _ => Mem.get_fit hm _, fun e => by dsimp only at e; omega, fun e => by dsimp only at e; omega, fun e => by dsimp only at e; omega⟩⟩
        dsimp only
        rw [if_pos hb.1, if_pos hb.1]
        exact ⟨hb.2.1, h3⟩
      · split
        · rename_i hb
          have h3 := (readPage_super hb.1 hb.2.1).2.2
          refine ⟨fun _ => ⟨c1, c2, c3, by dsimp only; omega, fun _ => c5 (by omega), fun _ => .inr ?_, fun _ => Mem.get_fit hm _, fun e => by dsimp only at e; omega, fun e => by dsimp only at e; omega, fun e => by dsimp only at e; omega⟩⟩
          dsimp only
          rw [if_pos hb.1, if_pos hb.1]
          exact ⟨hb.2.1, h3, (off_slot hoff h3).2⟩
        · exact ⟨fun e => (by cases e)⟩
    rw [if_neg n0]
    by_cases n1 : t.next = 1
    · rw [if_pos n1]
      have c6 := c6 (by omega)
      have c5 := c5 (by omega)
      unfold Fe.claim
      split
      · rename_i hk
        have c6 : 1 ≤ t.pa ∧ t.pa ≤ 8 ∧ t.pa ≤ s.p - t.page := by rcases c6 with h | h <;> omega
        refine ⟨fun _ => ⟨c1, c2, c3, by dsimp only; omega, fun e => by dsimp only at e; omega, fun _ => .inl ⟨hk, c6⟩, fun e => by dsimp only at e; omega, fun e => by dsimp only at e; omega, fun e => by dsimp only at e; omega, fun _ => ⟨hk, by dsimp only; omega, by dsimp only; omega⟩⟩⟩
      · rename_i hk
        have c6 : t.pk = 2 ∧ 0 < slotsV t.pa ∧ (0 ≤ t.slot ∧ t.slot < slotsV t.pa) := by rcases c6 with h | h; exact absurd h.1 hk; exact h
        dsimp only
        have three : ∀ (u : Fe), u.c = t.c → u.page = t.page → u.a = t.a → u.next = 3 → u.pk = t.pk → u.pa = t.pa → u.slot = t.slot → feOk s u := fun u e1 e2 e3 e4 e5 e6 e7 => by
          refine ⟨fun _ => ⟨by rw [e1]; exact c1, by rw [e2]; exact c2, by rw [e3]; exact c3, by omega, fun e => by omega, fun _ => .inr ?_, fun e => by omega, fun e => by omega, fun _ => by rw [e5]; exact c6.1, fun e => by omega⟩⟩
          rw [e5, e6, e7]; exact c6
        split
        · rcases feKept_cases ({ t with gave := decide (m.get (slotIx s.p s.c s.m t.page t.slot) = takenW t.pa), next := 2, put := some (puNew s t.c t.page t.slot t.pa) } : Fe) _ rfl with ⟨h1, _⟩ | ⟨h1, h2, h3⟩ | ⟨h1, h2, h3⟩
          · simp [puNew] at h1
          · rw [h3]
            exact three _ rfl rfl rfl rfl rfl rfl rfl
          · rw [h3]
            exact ⟨fun _ => ⟨c1, c2, c3, by dsimp only; omega, fun e => by dsimp only at e; omega, fun _ => .inr c6, fun e => by dsimp only at e; omega, fun _ => ⟨c6.1, _, rfl, puNew_ok _ _ _ _ _, h2⟩, fun e => by dsimp only at e; omega, fun e => by dsimp only at e; omega⟩⟩
        · exact three _ rfl rfl rfl rfl rfl rfl rfl
    rw [if_neg n1]
    by_cases n2 : t.next = 2
    · rw [if_pos n2]
      have c6 := c6 (by omega)
      obtain ⟨hk, x, hx, hxo, hxd⟩ := c8 n2
      rw [hx]
      dsimp only
      rcases feKept_cases ({ t with put := some (puStep s x m).1 } : Fe) _ rfl with ⟨h1, h3⟩ | ⟨h1, h2, h3⟩ | ⟨h1, h2, h3⟩
      · rw [h3]; exact ⟨fun e => (by cases e)⟩
      · rw [h3]
        exact ⟨fun _ => ⟨c1, c2, c3, by dsimp only; omega, fun e => by dsimp only at e; omega, fun _ => c6, fun e => by dsimp only at e; omega, fun e => by dsimp only at e; omega, fun _ => hk, fun e => by dsimp only at e; omega⟩⟩
      · rw [h3]
        exact ⟨fun _ => ⟨c1, c2, c3, c4, fun e => by dsimp only at e; omega, fun _ => c6, fun e => by dsimp only at e; omega, fun _ => ⟨hk, _, rfl, puStep_ok m hxo, h2⟩, fun _ => hk, fun e => by dsimp only at e; omega⟩⟩
    rw [if_neg n2]
    by_cases n3 : t.next = 3
    · rw [if_pos n3]; exact ⟨fun e => (by cases e)⟩
    rw [if_neg n3]
    have n4 : t.next = 4 := by omega
    have c10 := c10 n4
    split
    · exact ⟨fun e => (by cases e)⟩
    · exact ⟨fun _ => ⟨c1, c2, c3, c4, fun e => by dsimp only at e; omega, fun _ => c6 (by omega), fun e => by dsimp only at e; omega, fun e => by dsimp only at e; omega, fun e => by dsimp only at e; omega, fun _ => ⟨c10.1, by dsimp only; omega, by dsimp only; omega⟩⟩⟩
end Go.Proofs.YtcgakbgmdabnkaaGreat
