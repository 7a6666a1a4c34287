/- Texts bound together: MchM MchS. -/
import Derived.Test.YtcgakbgmdabnkaaGreatBn33

import Derived.Test.YtcgakbgmdabnkaaGreatBn31

set_option linter.all false
/- How many accesses the machines that are made of others do at most, and that a step is one access of their client's. Plain. -/
namespace Go.Proofs.YtcgakbgmdabnkaaGreat

def mcC : Mc → Int
  | .tk t => t.c
  | .sc t => t.c
  | .pc t => t.c
  | .sp t => t.c
  | .bn t => t.c
def mcLeft (s : Sh) : Mc → Int
  | .tk t => tkLeft s t
  | .sc t => scLeft s t
  | .pc t => pcLeft s t
  | .sp t => spLeft t
  | .bn t => bnLeft t
def mcRest (s : Sh) (t : Sk) : Mc → Int
  | .tk _ => 67 * s.p + 32
  | .sc _ => 34 * s.p + 32
  | .pc _ => 32 * s.p + 32
  | .sp _ => 32 * (s.p - t.many - 1) + 32
  | .bn _ => 0
theorem mc_step {s : Sh} {x : Mc} {m : Mem} (h : mcOk s x) (hd : x.done = false) (hf : Fits s m) : Acts (mcC x) m (mcStep s x m).2 ∧ mcC (mcStep s x m).1 = mcC x ∧ mcLeft s (mcStep s x m).1 + 1 ≤ mcLeft s x := by
  cases x with
  | tk t => exact tk_step h hd hf
  | sc t => exact sc_step h hd hf
  | pc t => exact pc_step h hd hf
  | sp t => exact sp_step h hd hf
  | bn t => exact bn_step h hd hf
theorem mc_rest (s : Sh) (t : Sk) (x : Mc) (m : Mem) : mcRest s t (mcStep s x m).1 = mcRest s t x := by cases x <;> rfl
theorem mc_nonneg {s : Sh} {x : Mc} (h : mcOk s x) : 0 ≤ mcLeft s x := by
  cases x with
  | tk t => exact tk_nonneg h
  | sc t => exact sc_nonneg h
  | pc t => exact pc_nonneg h
  | sp t => exact sp_nonneg h
  | bn t => exact bn_nonneg h
def skLeft (s : Sh) (t : Sk) : Int := if t.done = true then 0 else match t.now with
  | none => 32 * (s.p - t.many) + 32
  | some x => mcLeft s x + mcRest s t x
/-- What a Seeker keeps, of a client and a class. -/
structure skIs (s : Sh) (cl k : Int) (t : Sk) : Prop where
  ok : skOk s t
  c : t.c = cl
  k : t.k = k
  now : ∀ x, t.now = some x → mcC x = cl
theorem skIs_fin {s : Sh} {cl k : Int} {t : Sk} (h : skIs s cl k t) {pg sl : Int} (h2 : skOk s (t.fin pg sl)) : skIs s cl k (t.fin pg sl) := ⟨h2, h.c, h.k, h.now⟩
theorem sk_after {s : Sh} {cl k : Int} {t : Sk} {x : Mc} (h : skIs s cl k t) (hd : t.done = false) (hx : t.now = some x) (hxd : x.done = true) (hp : 1 ≤ s.p) : skIs s cl k (t.after s x) ∧ skLeft s (t.after s x) ≤ skLeft s t := by
  have ho := skAfter_ok h.ok hd hx hxd hp
  obtain ⟨c1, c2, c3, c4, c5⟩ := h.ok.cl hd
  have hxo := mc_nonneg (c5 x hx).1
  have hL : skLeft s t = mcLeft s x + mcRest s t x := by unfold skLeft; rw [if_neg (by rw [hd]; decide), hx]
  rw [hL]
  have fin0 : ∀ pg sl, skLeft s (t.fin pg sl) = 0 := fun _ _ => rfl
  have bind1 : ∀ p, skLeft s (t.bind s p) ≤ 32 := fun p => by
    have := (bn_new s t.c p t.k).1
    unfold skLeft Sk.bind
    dsimp only [mcLeft, mcRest]
    rw [if_neg (by rw [hd]; decide)]
    omega
  have bindIs : ∀ p, skOk s (t.bind s p) → skIs s cl k (t.bind s p) := fun p ho => ⟨ho, h.c, h.k, fun y hy => by
    simp only [Sk.bind, Option.some.injEq] at hy
    subst hy
    exact h.c⟩
  have turn1 : skLeft s (t.turn s) ≤ 32 * (s.p - t.many - 1) + 32 := by
    unfold skLeft Sk.turn
    dsimp only
    simp only [decide_eq_true_eq]
    split <;> omega
  cases x with
  | tk y =>
    simp only [Sk.after] at ho ⊢
    split at ho <;> rename_i hq
    · rw [if_pos hq]
      refine ⟨skIs_fin h ho, ?_⟩
      rw [fin0]
      have : mcRest s t (.tk y) = 67 * s.p + 32 := rfl
      omega
    · rw [if_neg hq]
      refine ⟨⟨ho, h.c, h.k, fun z hz => ?_⟩, ?_⟩
      · simp only [Option.some.injEq] at hz
        subst hz
        exact h.c
      · have := (sc_new s t.c t.k t.first hp).1
        unfold skLeft
        dsimp only [mcLeft, mcRest] at hxo ⊢
        rw [if_neg (by rw [hd]; decide)]
        omega
  | sc y =>
    simp only [Sk.after] at ho ⊢
    split at ho <;> rename_i hq
    · rw [if_pos hq]
      refine ⟨skIs_fin h ho, ?_⟩
      rw [fin0]
      have : mcRest s t (.sc y) = 34 * s.p + 32 := rfl
      omega
    · rw [if_neg hq]
      refine ⟨⟨ho, h.c, h.k, fun z hz => ?_⟩, ?_⟩
      · simp only [Option.some.injEq] at hz
        subst hz
        exact h.c
      · have := (pc_new s t.c t.first hp).1
        unfold skLeft
        dsimp only [mcLeft, mcRest] at hxo ⊢
        rw [if_neg (by rw [hd]; decide)]
        omega
  | pc y =>
    simp only [Sk.after] at ho ⊢
    split at ho <;> rename_i hq
    · rw [if_pos hq]
      refine ⟨bindIs _ ho, ?_⟩
      have h1 := bind1 (y.page s)
      have : mcRest s t (.pc y) = 32 * s.p + 32 := rfl
      omega
    · rw [if_neg hq]
      refine ⟨⟨ho, h.c, h.k, fun z hz => (by cases hz)⟩, ?_⟩
      unfold skLeft
      dsimp only [mcLeft, mcRest] at hxo ⊢
      rw [if_neg (by rw [hd]; decide)]
      omega
  | sp y =>
    simp only [Sk.after] at ho ⊢
    have hr : mcRest s t (.sp y) = 32 * (s.p - t.many - 1) + 32 := rfl
    split at ho <;> rename_i hq
    · rw [if_pos hq]
      refine ⟨bindIs _ ho, ?_⟩
      have h1 := bind1 (t.here s)
      omega
    · rw [if_neg hq]
      refine ⟨⟨ho, h.c, h.k, fun z hz => (by cases hz)⟩, ?_⟩
      omega
  | bn y =>
    simp only [Sk.after] at ho ⊢
    refine ⟨skIs_fin h ho, ?_⟩
    rw [fin0]
    have : mcRest s t (.bn y) = 0 := rfl
    omega
theorem sk_settle {s : Sh} {cl k : Int} (hp : 1 ≤ s.p) (n : Nat) : ∀ {t : Sk}, skIs s cl k t → skIs s cl k (skSettle s n t) ∧ skLeft s (skSettle s n t) ≤ skLeft s t := by
  induction n with
  | zero => intro t h; exact ⟨h, Int.le_refl _⟩
  | succ n ih =>
    intro t h
    unfold skSettle
    split
    · rename_i x hx
      split
      · rename_i hc
        have h1 := sk_after h hc.1 hx hc.2 hp
        have h2 := ih h1.1
        exact ⟨h2.1, Int.le_trans h2.2 h1.2⟩
      · exact ⟨h, Int.le_refl _⟩
    · exact ⟨h, Int.le_refl _⟩
/-- A Seeker is never at a machine that is done. -/
def skSet (t : Sk) : Prop := t.done = true ∨ t.now = none ∨ ∃ x, t.now = some x ∧ x.done = false
theorem sk_settled {s : Sh} (n : Nat) : ∀ {t : Sk}, skRank t ≤ n → skSet (skSettle s n t) := by
  induction n with
  | zero =>
    intro t h
    unfold skRank at h
    unfold skSettle
    split at h
    · rename_i hd; exact .inl hd
    · split at h <;> rename_i hn <;> first | exact .inr (.inl hn) | omega
  | succ n ih =>
    intro t h
    unfold skSettle
    split
    · rename_i x hx
      split
      · rename_i hc
        have := skAfter_rank (s := s) hc.1 hx
        exact ih (by omega)
      · rename_i hc
        rcases Bool.eq_false_or_eq_true t.done with hd | hd
        · exact .inl hd
        · rcases Bool.eq_false_or_eq_true x.done with hxd | hxd
          · exact absurd ⟨hd, hxd⟩ hc
          · exact .inr (.inr ⟨x, hx, hxd⟩)
    · rename_i hx
      exact .inr (.inl hx)
theorem sk_settled5 (s : Sh) (t : Sk) : skSet (skSettle s 5 t) := sk_settled 5 (Nat.le_trans (skRank_le t) (by decide))
theorem sk_nonneg {s : Sh} {t : Sk} (h : skOk s t) : 0 ≤ skLeft s t := by
  unfold skLeft
  split
  · omega
  · rename_i hd
    obtain ⟨c1, c2, c3, c4, c5⟩ := h.cl (by simpa using hd)
    split
    · omega
    · rename_i x hx
      have h1 := mc_nonneg (c5 x hx).1
      have : 0 ≤ mcRest s t x := by cases x <;> dsimp only [mcRest] <;> omega
      omega
theorem sk_new {s : Sh} (c k f : Int) (hm : mayB s.p s.c s.m = true) : skIs s c k (skNew s c k f) ∧ skSet (skNew s c k f) ∧ skLeft s (skNew s c k f) ≤ 67 * s.p + s.m + 33 := by
  have hb := mayB_iff.1 hm
  have ho := skNew_ok s c k f
  unfold skNew at ho ⊢
  split at ho
  · rename_i h
    rw [if_pos h]
    have h0 : skIs s c k ⟨c, k, f, some (.tk (tkNew s c k)), 0, 0, 0, false, false⟩ := by
      have h1 := statusIx_ok h.1
      have h3 := pageIx_ok h.2.2
      refine ⟨⟨fun _ => ⟨by dsimp only; omega, h.2.1, by dsimp only; omega, by dsimp only; omega, fun x hx => ?_⟩, fun e => (by cases e)⟩, rfl, rfl, fun x hx => ?_⟩
      · simp only [Option.some.injEq] at hx
        subst hx
        exact ⟨tkNew_ok _ _ _, rfl⟩
      · simp only [Option.some.injEq] at hx
        subst hx
        rfl
    have h1 := sk_settle (by omega) 5 h0
    refine ⟨h1.1, sk_settled5 _ _, Int.le_trans h1.2 ?_⟩
    have := (tk_new s c k (by omega)).1
    unfold skLeft
    dsimp only [mcLeft, mcRest]
    rw [if_neg (by decide)]
    omega
  · rename_i h
    rw [if_neg h]
    refine ⟨⟨ho, rfl, rfl, fun x hx => (by cases hx)⟩, .inl rfl, ?_⟩
    unfold skLeft
    dsimp only
    rw [if_pos rfl]
    omega
theorem sk_step {s : Sh} {cl k : Int} {t : Sk} {m : Mem} (h : skIs s cl k t) (hs : skSet t) (hd : t.done = false) (hf : Fits s m) : Acts cl m (skStep s t m).2 ∧ skIs s cl k (skStep s t m).1 ∧ skSet (skStep s t m).1 ∧ skLeft s (skStep s t m).1 + 1 ≤ skLeft s t := by
  have hp : 1 ≤ s.p := hf.bd.1
  obtain ⟨c1, c2, c3, c4, c5⟩ := h.ok.cl hd
  have hnf := not_found h.ok.fd hd
  have hL : skLeft s t = match t.now with
    | none => 32 * (s.p - t.many) + 32
    | some x => mcLeft s x + mcRest s t x := by unfold skLeft; rw [if_neg (by rw [hd]; decide)]
  have ho := skStep_ok m hp h.ok
  unfold skStep at ho ⊢
  rw [if_neg (by rw [hd]; decide)] at ho ⊢
  rcases hs with hs | hs | ⟨x, hx, hxd⟩
  · rw [hd] at hs; cases hs
  · rw [hs] at ho hL ⊢
    dsimp only at ho hL ⊢
    have hh := t.here_in hp
    refine ⟨(Acts.load (hf.pageA hh)).of h.c, ?_⟩
    split at ho <;> rename_i hq
    · rw [if_pos hq]
      refine ⟨⟨ho, h.c, h.k, fun z hz => ?_⟩, .inr (.inr ⟨_, rfl, ?_⟩), ?_⟩
      · simp only [Option.some.injEq] at hz
        subst hz
        exact h.c
      · have h1 := (readPageB_iff.1 hq.1).2.1
        have h2 := pageIx_ok h1
        have h3 := (readPage_super hq.1 hq.2).2.2
        have h4 : 0 ≤ statusIx s.p s.c s.m t.c := by
          unfold statusIx
          rw [if_pos ⟨h2.1, wi_iff.2 (by omega)⟩]
          exact c1.1
        simp [Mc.done, spNew, h1, h3, h4]
      · rw [hL]
        have := (sp_new s t.c (t.here s) (partV (m.get (pageIx s.p s.c s.m (t.here s))) 0)).1
        unfold skLeft
        dsimp only [mcLeft, mcRest]
        rw [if_neg (by rw [hd]; decide)]
        omega
    · rw [if_neg hq]
      refine ⟨⟨ho, h.c, h.k, fun z hz => (by cases hz)⟩, .inr (.inl rfl), ?_⟩
      rw [hL]
      unfold skLeft Sk.turn
      dsimp only
      simp only [decide_eq_true_eq]
      split <;> omega
  · rw [hx] at ho hL ⊢
    dsimp only at ho hL ⊢
    have h1 := mc_step (c5 x hx).1 hxd hf
    have hc := h.now x hx
    have h0 : skIs s cl k { t with now := some (mcStep s x m).1 } := by
      refine ⟨⟨fun _ => ⟨c1, c2, c3, c4, fun z hz => ?_⟩, fun e => (by have e : t.found = true := e; rw [hnf] at e; cases e)⟩, h.c, h.k, fun z hz => ?_⟩
      · simp only [Option.some.injEq] at hz
        subst hz
        exact ⟨mcStep_ok m (c5 x hx).1, mcStep_mine (t := t) m (c5 x hx).2⟩
      · simp only [Option.some.injEq] at hz
        subst hz
        exact h1.2.1.trans hc
    have h2 := sk_settle hp 5 h0
    refine ⟨h1.1.of hc, h2.1, sk_settled5 _ _, ?_⟩
    have h3 : skLeft s { t with now := some (mcStep s x m).1 } = mcLeft s (mcStep s x m).1 + mcRest s t x := by
      rw [← mc_rest s t x m]
      unfold skLeft
      rw [if_neg (by rw [hd]; decide)]
      cases (mcStep s x m).1 <;> rfl
    omega

def rnLeft (s : Sh) (t : Rn) : Int := if t.done = true then 0
  else if t.next = 0 then 50 * (s.p - t.at') + (t.at' - t.head) + 8
  else if t.next = 1 then 50 * (s.p - t.at' - 1) + (t.at' - t.head) + 10
  else if t.next = 2 then 50 * (s.p - t.at' - 1) + (match t.strip with | some x => spLeft x | none => 0) + (t.at' - t.head) + 25
  else if t.next = 3 then 50 * (s.p - t.at' - 1) + (16 - t.i) + (t.at' - t.head) + 9
  else if t.next = 4 then 50 * (s.p - t.at' - 1) + (t.i - t.head) + 8
  else t.head + t.pages - t.i
/-- What a Runner keeps, of a client and so many pages. -/
structure rnIs (s : Sh) (cl n : Int) (t : Rn) : Prop where
  ok : rnOk s t
  c : t.c = cl
  n : t.pages = n
  st : ∀ x, t.strip = some x → x.c = cl
theorem rn_pos {s : Sh} {t : Rn} (h : rnOk s t) (hd : t.done = false) : 1 ≤ rnLeft s t := by
  obtain ⟨c1, c2, c3, c4, c5, c6, c7, c8, c9, c10⟩ := h.cl hd
  unfold rnLeft
  rw [if_neg (by rw [hd]; decide)]
  split
  · have := c6 (by omega); omega
  · split
    · have := c6 (by omega); omega
    · split
      · rename_i n2
        have := c6 (by omega)
        obtain ⟨x, hx, hxo, hxd⟩ := c7 n2
        have := sp_nonneg hxo
        rw [hx]; dsimp only; omega
      · split
        · rename_i n3
          have := c6 (by omega)
          have := c8 n3
          omega
        · split
          · rename_i n4
            have := c6 (by omega)
            have := c9 n4
            omega
          · have := c10 (by omega)
            omega
theorem rn_own {s : Sh} {t : Rn} (hd : t.done = false) (h2 : 1 ≤ t.pages ∧ t.pages ≤ 8) (h4 : t.head ≤ t.at' ∧ t.at' < t.head + t.pages) (h5 : t.head + t.pages ≤ s.p) : rnLeft s t.own ≤ 50 * (s.p - t.at' - 1) + (t.at' + 1 - t.head) + 8 ∧ t.own.c = t.c ∧ t.own.pages = t.pages ∧ t.own.strip = t.strip := by
  unfold Rn.own Rn.written
  have hnd : ¬ t.done = true := by rw [hd]; decide
  split
  · dsimp only
    split
    · refine ⟨?_, rfl, rfl, rfl⟩
      unfold rnLeft
      dsimp only
      rw [if_pos rfl]
      omega
    · refine ⟨?_, rfl, rfl, rfl⟩
      unfold rnLeft
      dsimp only
      rw [if_neg hnd, if_neg (by decide), if_neg (by decide), if_neg (by decide), if_neg (by decide), if_neg (by decide)]
      omega
  · refine ⟨?_, rfl, rfl, rfl⟩
    unfold rnLeft
    dsimp only
    rw [if_neg hnd, if_pos rfl]
    omega
theorem rn_gone {s : Sh} {t : Rn} (hd : t.done = false) (h5 : t.next = 4) (h2 : t.pages ≤ s.p) (h6 : t.at' < s.p) (h7 : t.head ≤ t.i) : rnLeft s (t.gone s) ≤ 50 * (s.p - t.at' - 1) + (t.i - t.head) + 8 ∧ (t.gone s).c = t.c ∧ (t.gone s).pages = t.pages ∧ (t.gone s).strip = t.strip := by
  unfold Rn.gone
  have hnd : ¬ t.done = true := by rw [hd]; decide
  split
  · refine ⟨?_, rfl, rfl, rfl⟩
    unfold rnLeft
    rw [if_neg hnd, if_neg (by omega), if_neg (by omega), if_neg (by omega), if_neg (by omega), if_pos h5]
    omega
  · refine ⟨?_, rfl, rfl, rfl⟩
    unfold rnLeft
    dsimp only
    simp only [decide_eq_true_eq, if_true]
    split <;> omega
theorem rn_miss {s : Sh} {t : Rn} (hd : t.done = false) (h2 : t.pages ≤ s.p) (h4 : t.head ≤ t.at') (h6 : t.at' < s.p) : rnLeft s (t.miss s) ≤ 50 * (s.p - t.at' - 1) + (t.at' - t.head) + 8 ∧ (t.miss s).c = t.c ∧ (t.miss s).pages = t.pages ∧ (t.miss s).strip = t.strip :=
  rn_gone (t := { t with next := 4, i := t.at' }) hd rfl h2 h6 h4
theorem rn_step {s : Sh} {cl n : Int} {t : Rn} {m : Mem} (h : rnIs s cl n t) (hd : t.done = false) (hf : Fits s m) : Acts cl m (rnStep s t m).2 ∧ rnIs s cl n (rnStep s t m).1 ∧ rnLeft s (rnStep s t m).1 + 1 ≤ rnLeft s t := by
  obtain ⟨c1, c2, c3, c4, c5, c6, c7, c8, c9, c10⟩ := h.ok.cl hd
  have hnd : ¬ t.done = true := by rw [hd]; decide
  have ho := rnStep_ok m h.ok
  have hL : rnLeft s t = if t.next = 0 then 50 * (s.p - t.at') + (t.at' - t.head) + 8
    else if t.next = 1 then 50 * (s.p - t.at' - 1) + (t.at' - t.head) + 10
    else if t.next = 2 then 50 * (s.p - t.at' - 1) + (match t.strip with | some x => spLeft x | none => 0) + (t.at' - t.head) + 25
    else if t.next = 3 then 50 * (s.p - t.at' - 1) + (16 - t.i) + (t.at' - t.head) + 9
    else if t.next = 4 then 50 * (s.p - t.at' - 1) + (t.i - t.head) + 8
    else t.head + t.pages - t.i := by unfold rnLeft; rw [if_neg hnd]
  have is : ∀ u : Rn, rnOk s u → u.c = t.c → u.pages = t.pages → (u.strip = t.strip ∨ ∃ x, u.strip = some x ∧ x.c = t.c) → rnIs s cl n u := fun u ho e1 e2 e3 => ⟨ho, e1.trans h.c, e2.trans h.n, fun x hx => by
    rcases e3 with e3 | ⟨y, e3, e4⟩
    · exact h.st x (e3 ▸ hx)
    · rw [e3] at hx; injection hx with hx; subst hx; exact e4.trans h.c⟩
  rw [hL]
  unfold rnStep at ho ⊢
  dsimp only at ho ⊢
  rw [if_neg hnd] at ho ⊢
  by_cases n0 : t.next = 0
  · have c6 := c6 (by omega)
    have hm := hf.pageA (x := t.at') (by omega)
    have hmi := rn_miss (s := s) hd (by omega) c4.1 (by omega)
    rw [if_pos n0] at ho ⊢
    rw [if_pos n0]
    dsimp only at ho ⊢
    refine ⟨(Acts.load hm).of h.c, ?_⟩
    split at ho <;> rename_i h1
    · rw [if_pos h1]
      refine ⟨is _ ho rfl rfl (.inl rfl), ?_⟩
      unfold rnLeft
      dsimp only
      rw [if_neg hnd, if_neg (by decide), if_pos rfl]
      omega
    · rw [if_neg h1]
      split at ho <;> rename_i h2
      · rw [if_pos h2]
        refine ⟨is _ ho rfl rfl (.inr ⟨_, rfl, rfl⟩), ?_⟩
        have := (sp_new s t.c t.at' (partV (m.get (pageIx s.p s.c s.m t.at')) 0)).1
        unfold rnLeft
        dsimp only
        rw [if_neg hnd, if_neg (by decide), if_neg (by decide), if_pos rfl]
        omega
      · rw [if_neg h2]
        exact ⟨is _ ho hmi.2.1 hmi.2.2.1 (.inl hmi.2.2.2), by omega⟩
  rw [if_neg n0] at ho ⊢
  rw [if_neg n0]
  by_cases n1 : t.next = 1
  · have c6 := c6 (by omega)
    have hm := hf.pageA (x := t.at') (by omega)
    have hmi := rn_miss (s := s) hd (by omega) c4.1 (by omega)
    have hown := rn_own (s := s) hd c2 ⟨c4.1, c6⟩ c3.2
    rw [if_pos n1] at ho ⊢
    rw [if_pos n1]
    dsimp only at ho ⊢
    refine ⟨(Acts.swap hm (heldW_u64 _)).of h.c, ?_⟩
    split at ho <;> rename_i h1
    · rw [if_pos h1]
      exact ⟨is _ ho hown.2.1 hown.2.2.1 (.inl hown.2.2.2), by omega⟩
    · rw [if_neg h1]
      exact ⟨is _ ho hmi.2.1 hmi.2.2.1 (.inl hmi.2.2.2), by omega⟩
  rw [if_neg n1] at ho ⊢
  rw [if_neg n1]
  by_cases n2 : t.next = 2
  · have c6 := c6 (by omega)
    obtain ⟨x, hx, hxo, hxd⟩ := c7 n2
    have hst := sp_step hxo hxd hf
    have hxc := h.st x hx
    have hnn := sp_nonneg (spStep_ok m hxo)
    have htc := h.c
    rw [if_pos n2, hx] at ho ⊢
    rw [if_pos n2]
    dsimp only at ho ⊢
    refine ⟨hst.1.of hxc, ?_⟩
    split at ho <;> rename_i h1
    · rw [if_pos h1]
      refine ⟨is _ ho rfl rfl (.inr ⟨_, rfl, by rw [hst.2.1, hxc, htc]⟩), ?_⟩
      unfold rnLeft
      dsimp only
      rw [if_neg hnd, if_neg (by decide), if_neg (by decide), if_neg (by decide), if_pos rfl]
      omega
    · rw [if_neg h1]
      split at ho <;> rename_i h2
      · rw [if_pos h2]
        have hmi := rn_miss (s := s) (t := { t with strip := some (spStep s x m).1 }) hd (by dsimp only; omega) c4.1 (by dsimp only; omega)
        dsimp only at hmi
        refine ⟨is _ ho hmi.2.1 hmi.2.2.1 (.inr ⟨_, hmi.2.2.2, by rw [hst.2.1, hxc, htc]⟩), ?_⟩
        omega
      · rw [if_neg h2]
        refine ⟨is _ ho rfl rfl (.inr ⟨_, rfl, by rw [hst.2.1, hxc, htc]⟩), ?_⟩
        unfold rnLeft
        dsimp only
        rw [if_neg hnd, if_neg n0, if_neg n1, if_pos n2]
        omega
  rw [if_neg n2] at ho ⊢
  rw [if_neg n2]
  by_cases n3 : t.next = 3
  · have c6 := c6 (by omega)
    have c8 := c8 n3
    have hm := hf.slotA (x := t.at') (i := t.i) (by omega) (by omega)
    rw [if_pos n3] at ho ⊢
    rw [if_pos n3]
    dsimp only at ho ⊢
    refine ⟨(Acts.store hm word0).of h.c, ?_⟩
    split at ho <;> rename_i h1
    · rw [if_pos h1]
      have hown := rn_own (s := s) (t := { t with i := t.i + 1 }) hd c2 ⟨c4.1, c6⟩ c3.2
      dsimp only at hown
      exact ⟨is _ ho hown.2.1 hown.2.2.1 (.inl hown.2.2.2), by omega⟩
    · rw [if_neg h1]
      refine ⟨is _ ho rfl rfl (.inl rfl), ?_⟩
      unfold rnLeft
      dsimp only
      rw [if_neg hnd, if_neg n0, if_neg n1, if_neg n2, if_pos n3]
      omega
  rw [if_neg n3] at ho ⊢
  rw [if_neg n3]
  by_cases n4 : t.next = 4
  · have c6 := c6 (by omega)
    have c9 := c9 n4
    have hm := hf.pageA (x := t.i - 1) (by omega)
    rw [if_pos n4] at ho ⊢
    rw [if_pos n4]
    dsimp only at ho ⊢
    have hg := rn_gone (s := s) (t := { t with i := t.i - 1 }) hd n4 (by dsimp only; omega) (by dsimp only; omega) (by dsimp only; omega)
    dsimp only at hg
    exact ⟨(Acts.store hm (pageV_u64 _ _ _)).of h.c, is _ ho hg.2.1 hg.2.2.1 (.inl hg.2.2.2), by omega⟩
  rw [if_neg n4] at ho ⊢
  rw [if_neg n4]
  have n5 : t.next = 5 := by omega
  have c10 := c10 n5
  have hm := hf.pageA (x := t.i) (by omega)
  dsimp only at ho ⊢
  refine ⟨(Acts.store hm (pageV_u64 _ _ _)).of h.c, ?_⟩
  unfold Rn.written at ho ⊢
  split at ho <;> rename_i h1
  · rw [if_pos h1]
    refine ⟨is _ ho rfl rfl (.inl rfl), ?_⟩
    unfold rnLeft
    dsimp only
    rw [if_pos rfl]
    omega
  · rw [if_neg h1]
    refine ⟨is _ ho rfl rfl (.inl rfl), ?_⟩
    unfold rnLeft
    dsimp only
    rw [if_neg hnd, if_neg n0, if_neg n1, if_neg n2, if_neg n3, if_neg n4]
    omega
theorem rn_new {s : Sh} (c n : Int) (hm : mayB s.p s.c s.m = true) : rnIs s c n (rnNew s c n) ∧ rnLeft s (rnNew s c n) ≤ 50 * s.p + 8 := by
  have hb := mayB_iff.1 hm
  refine ⟨⟨rnNew_ok _ _ _, rfl, rfl, fun x hx => (by cases hx)⟩, ?_⟩
  unfold rnLeft rnNew
  dsimp only
  split
  · omega
  · rw [if_pos rfl]; omega
theorem rn_nonneg {s : Sh} {t : Rn} (h : rnOk s t) : 0 ≤ rnLeft s t := by
  rcases Bool.eq_false_or_eq_true t.done with hd | hd
  · unfold rnLeft; rw [if_pos hd]; omega
  · have := rn_pos h hd; omega
end Go.Proofs.YtcgakbgmdabnkaaGreat
/- A client's job: it does one access at each step, and at most so many. Plain. -/
namespace Go.Proofs.YtcgakbgmdabnkaaGreat

/-- What a Reserver keeps. -/
structure rsIs (s : Sh) (cl : Int) (t : Rs) : Prop where
  sk : ∀ x, t.seeker = some x → skIs s cl t.k x ∧ skSet x
  rn : ∀ x, t.runner = some x → rnIs s cl t.pages x
def rsLeft (s : Sh) (t : Rs) : Int := match t.seeker, t.runner with
  | some x, _ => skLeft s x
  | none, some x => rnLeft s x
  | none, none => 0
theorem rs_nonneg {s : Sh} {cl : Int} {t : Rs} (h : rsIs s cl t) : 0 ≤ rsLeft s t := by
  obtain ⟨k, pg, sk, rn⟩ := t
  rcases sk with _ | x
  · rcases rn with _ | y
    · exact Int.le_refl _
    · exact rn_nonneg (h.rn y rfl).ok
  · exact sk_nonneg (h.sk x rfl).1.ok
theorem rs_step {s : Sh} {cl : Int} {t : Rs} {m : Mem} (h : rsIs s cl t) (hd : t.done = false) (hf : Fits s m) : Acts cl m (rsStep s t m).2 ∧ rsIs s cl (rsStep s t m).1 ∧ rsLeft s (rsStep s t m).1 + 1 ≤ rsLeft s t := by
  obtain ⟨k, pg, sk, rn⟩ := t
  rcases sk with _ | x
  · rcases rn with _ | y
    · cases hd
    · have h1 := rn_step (h.rn y rfl) hd hf
      exact ⟨h1.1, ⟨fun z hz => (by cases hz), fun z hz => (by injection hz with hz; subst hz; exact h1.2.1)⟩, h1.2.2⟩
  · have h1 := sk_step (h.sk x rfl).1 (h.sk x rfl).2 hd hf
    exact ⟨h1.1, ⟨fun z hz => (by injection hz with hz; subst hz; exact ⟨h1.2.1, h1.2.2.1⟩), h.rn⟩, h1.2.2.2⟩
theorem rs_new {s : Sh} (c n f : Int) (hm : mayB s.p s.c s.m = true) : rsIs s c (rsNew s c n f) ∧ rsLeft s (rsNew s c n f) ≤ 67 * s.p + s.m + 33 := by
  have hb := mayB_iff.1 hm
  unfold rsNew
  split
  · have h1 := sk_new c (classV n) f hm
    exact ⟨⟨fun x hx => (by injection hx with hx; subst hx; exact ⟨h1.1, h1.2.1⟩), fun x hx => (by cases hx)⟩, h1.2.2⟩
  · split
    · have h1 := rn_new c (runV n) hm
      refine ⟨⟨fun x hx => (by cases hx), fun x hx => (by injection hx with hx; subst hx; exact h1.1)⟩, ?_⟩
      have : rsLeft s ⟨0, runV n, none, some (rnNew s c (runV n))⟩ = rnLeft s (rnNew s c (runV n)) := rfl
      omega
    · exact ⟨⟨fun x hx => (by cases hx), fun x hx => (by cases hx)⟩, by show (0 : Int) ≤ _; omega⟩
theorem rs_got {s : Sh} {cl : Int} {t : Rs} {b : Blk} (h : rsIs s cl t) (hm : mayB s.p s.c s.m = true) (hc : 0 ≤ cl ∧ cl < s.c) (hg : t.got = some b) : b.fits s cl = true ∧ t.done = true := by
  obtain ⟨k, pg, sk, rn⟩ := t
  rcases sk with _ | x
  · rcases rn with _ | y
    · cases hg
    · have h1 := h.rn y rfl
      unfold Rs.got at hg
      dsimp only at hg
      split at hg
      · rename_i hf
        injection hg with hg
        subst hg
        have h2 := h1.ok.fd hf
        have h3 := h1.n
        dsimp only at h3
        refine ⟨fits_iff.2 ⟨hm, hc, by dsimp only; omega, fun _ => by dsimp only; omega, fun e => (by cases e)⟩, h2.1⟩
      · cases hg
  · have h1 := (h.sk x rfl).1
    unfold Rs.got at hg
    dsimp only at hg
    split at hg
    · rename_i hf
      injection hg with hg
      subst hg
      have h2 := h1.ok.fd hf
      have h3 := h1.k
      dsimp only at h3
      refine ⟨fits_iff.2 ⟨hm, hc, by dsimp only; omega, fun e => (by cases e), fun _ => by dsimp only; rw [← h3]; omega⟩, h2.1⟩
    · cases hg
theorem cm_step {s : Sh} {t : Cm} {m : Mem} (h : t.b.fits s t.c = true) (hd : t.done = false) (hf : Fits s m) : Acts t.c m (cmStep s t m).2 ∧ (cmStep s t m).1 = { t with done := true } := by
  have h1 := fits_iff.1 h
  unfold cmStep
  rw [if_neg (by rw [hd]; decide)]
  refine ⟨?_, rfl⟩
  dsimp only
  cases hl : t.b.large
  · rw [if_neg (by decide)]
    have h2 := h1.2.2.2.2 hl
    have h3 := slotsV_ok (by omega : 0 < slotsV t.b.k)
    exact .store (hf.slotA h1.2.2.1 (by omega)) (takenW_u64 _)
  · rw [if_pos rfl]
    exact .store (hf.pageA h1.2.2.1) (pageV_u64 _ _ _)
def unLeft (t : Un) : Int := if t.done = true then 0 else if t.b.large = true then t.b.pages - t.i else 1
theorem un_pos {s : Sh} {t : Un} (h : unOk s t) (hd : t.done = false) : 1 ≤ unLeft t := by
  have h1 := (h.cl hd).2
  unfold unLeft
  rw [if_neg (by rw [hd]; decide)]
  split
  · rename_i hl; have := h1 hl; omega
  · omega
theorem un_step {s : Sh} {t : Un} {m : Mem} (h : unOk s t) (hd : t.done = false) (hf : Fits s m) : Acts t.c m (unStep s t m).2 ∧ (unStep s t m).1.c = t.c ∧ (unStep s t m).1.b = t.b ∧ unLeft (unStep s t m).1 + 1 ≤ unLeft t := by
  obtain ⟨hfi, hi⟩ := h.cl hd
  have h1 := fits_iff.1 hfi
  have hL : unLeft t = if t.b.large = true then t.b.pages - t.i else 1 := by unfold unLeft; rw [if_neg (by rw [hd]; decide)]
  rw [hL]
  unfold unStep
  rw [if_neg (by rw [hd]; decide)]
  cases hl : t.b.large
  · rw [if_pos rfl, if_neg (by decide)]
    have h2 := h1.2.2.2.2 hl
    have h3 := slotsV_ok (by omega : 0 < slotsV t.b.k)
    refine ⟨.store (hf.slotA h1.2.2.1 (by omega)) (openW_u64 _), rfl, rfl, ?_⟩
    unfold unLeft; rw [if_pos rfl]; omega
  · rw [if_neg (by decide), if_pos rfl]
    have h2 := h1.2.2.2.1 hl
    have hi := hi hl
    split
    · refine ⟨.store (hf.pageA h1.2.2.1) word0, rfl, rfl, ?_⟩
      unfold unLeft; rw [if_pos rfl]; omega
    · refine ⟨.store (hf.pageA (by omega)) word0, rfl, rfl, ?_⟩
      unfold unLeft
      dsimp only
      rw [if_neg (by rw [hd]; decide), if_pos hl]
      omega
theorem un_new {s : Sh} (c : Int) (b : Blk) (h : b.fits s c = true) : unLeft (unNew s c b) ≤ 8 ∧ (unNew s c b).done = false := by
  have h1 := fits_iff.1 h
  have hd : (unNew s c b).done = false := by simp [unNew, h]
  refine ⟨?_, hd⟩
  unfold unLeft
  rw [if_neg (by rw [hd]; decide)]
  split
  · rename_i hl
    have h2 := h1.2.2.2.1 hl
    simp only [unNew]; omega
  · omega

/-- What a Freer keeps, of a client. -/
structure feIs (s : Sh) (cl : Int) (t : Fe) : Prop where
  ok : feOk s t
  c : t.c = cl
  put : ∀ x, t.put = some x → x.c = cl
  gv : t.next ≤ 1 → t.gave = false
  gv2 : 2 ≤ t.next → t.done = false → t.gave = true
def feLeft (s : Sh) (t : Fe) : Int := if t.done = true then 0 else if t.next = 0 then s.m + 12 else if t.next = 1 then s.m + 11
  else if t.next = 2 then (match t.put with | some x => puLeft s x | none => 0) + 1 else if t.next = 3 then 1 else t.pa - t.i
theorem fe_pos {s : Sh} {t : Fe} (h : feOk s t) (hm : 0 ≤ s.m) (hd : t.done = false) : 1 ≤ feLeft s t := by
  obtain ⟨c1, c2, c3, c4, c5, c6, c7, c8, c9, c10⟩ := h.cl hd
  unfold feLeft
  rw [if_neg (by rw [hd]; decide)]
  split
  · omega
  · split
    · omega
    · split
      · rename_i n2
        obtain ⟨_, x, hx, hxo, hxd⟩ := c8 n2
        have := pu_nonneg hxo
        rw [hx]; dsimp only; omega
      · split
        · omega
        · have := c10 (by omega); omega
theorem fe_nonneg {s : Sh} {t : Fe} (h : feOk s t) (hm : 0 ≤ s.m) : 0 ≤ feLeft s t := by
  rcases Bool.eq_false_or_eq_true t.done with hd | hd
  · unfold feLeft; rw [if_pos hd]; omega
  · have := fe_pos h hm hd; omega
theorem fe_new {s : Sh} (c a : Int) (hm : mayB s.p s.c s.m = true) : feIs s c (feNew s c a) ∧ feLeft s (feNew s c a) ≤ s.m + 12 := by
  have hb := mayB_iff.1 hm
  refine ⟨⟨feNew_ok _ _ _, rfl, fun x hx => (by cases hx), fun _ => rfl, fun e => (by simp [feNew] at e)⟩, ?_⟩
  unfold feLeft
  split
  · omega
  · rw [if_pos (show (feNew s c a).next = 0 from rfl)]; omega
theorem fe_step {s : Sh} {cl : Int} {t : Fe} {m : Mem} (h : feIs s cl t) (hd : t.done = false) (hf : Fits s m) (hfit : m.fit) : Acts cl m (feStep s t m).2 ∧ feIs s cl (feStep s t m).1 ∧ feLeft s (feStep s t m).1 + 1 ≤ feLeft s t ∧ (t.gave = true → (feStep s t m).1.gave = true) := by
  obtain ⟨c1, c2, c3, c4, c5, c6, c7, c8, c9, c10⟩ := h.ok.cl hd
  have hb := hf.bd
  have hnd : ¬ t.done = true := by rw [hd]; decide
  have ho := feStep_ok m hfit h.ok
  have hL : feLeft s t = if t.next = 0 then s.m + 12 else if t.next = 1 then s.m + 11
    else if t.next = 2 then (match t.put with | some x => puLeft s x | none => 0) + 1 else if t.next = 3 then 1 else t.pa - t.i := by unfold feLeft; rw [if_neg hnd]
  have hdn : ∀ u : Fe, u.done = true → feLeft s u = 0 := fun u e => by unfold feLeft; rw [if_pos e]
  have hm1 := hf.pageA c2
  rw [hL]
  unfold feStep at ho ⊢
  rw [if_neg hnd] at ho ⊢
  by_cases n0 : t.next = 0
  · have hgv := h.gv (by omega)
    rw [if_pos n0] at ho ⊢
    rw [if_pos n0]
    unfold Fe.look at ho ⊢
    dsimp only at ho ⊢
    refine ⟨(Acts.load hm1).of h.c, ?_⟩
    split at ho <;> rename_i h1
    · rw [if_pos h1]
      refine ⟨⟨ho, h.c, h.put, fun _ => hgv, fun e => (by dsimp only at e; omega)⟩, ?_, fun e => (by rw [hgv] at e; cases e)⟩
      unfold feLeft
      dsimp only
      rw [if_neg hnd, if_neg (by decide), if_pos rfl]
      omega
    · rw [if_neg h1]
      split at ho <;> rename_i h2
      · rw [if_pos h2]
        refine ⟨⟨ho, h.c, h.put, fun _ => hgv, fun e => (by dsimp only at e; omega)⟩, ?_, fun e => (by rw [hgv] at e; cases e)⟩
        unfold feLeft
        dsimp only
        rw [if_neg hnd, if_neg (by decide), if_pos rfl]
        omega
      · rw [if_neg h2]
        refine ⟨⟨ho, h.c, h.put, fun _ => hgv, fun e => (by dsimp only at e; omega)⟩, ?_, fun e => (by rw [hgv] at e; cases e)⟩
        rw [hdn _ rfl]
        omega
  rw [if_neg n0] at ho ⊢
  rw [if_neg n0]
  by_cases n1 : t.next = 1
  · have hgv := h.gv (by omega)
    have c5 := c5 (by omega)
    have c6 := c6 (by omega)
    rw [if_pos n1] at ho ⊢
    rw [if_pos n1]
    unfold Fe.claim at ho ⊢
    dsimp only at ho ⊢
    by_cases hk : t.pk = 3
    · have c6 : 1 ≤ t.pa ∧ t.pa ≤ 8 ∧ t.pa ≤ s.p - t.page := by rcases c6 with h | h <;> omega
      rw [if_pos hk] at ho ⊢
      dsimp only at ho ⊢
      refine ⟨(Acts.swap hm1 (heldW_u64 _)).of h.c, ⟨ho, h.c, h.put, fun e => (by dsimp only at e; omega), fun _ e => (by dsimp only at e ⊢; simpa using e)⟩, ?_, fun e => (by rw [hgv] at e; cases e)⟩
      unfold feLeft
      dsimp only
      split
      · omega
      · rw [if_neg (by decide), if_neg (by decide), if_neg (by decide), if_neg (by decide)]
        omega
    · have c6 : t.pk = 2 ∧ 0 < slotsV t.pa ∧ (0 ≤ t.slot ∧ t.slot < slotsV t.pa) := by rcases c6 with h | h; exact absurd h.1 hk; exact h
      have hsl := slotsV_ok c6.2.1
      have hm2 := hf.slotA (x := t.page) (i := t.slot) c2 (by omega)
      rw [if_neg hk] at ho ⊢
      dsimp only at ho ⊢
      refine ⟨(Acts.swap hm2 (wayW_u64 _)).of h.c, ?_⟩
      generalize hg : decide (m.get (slotIx s.p s.c s.m t.page t.slot) = takenW t.pa) = g at ho ⊢
      by_cases hpb : t.pb = t.c
      · rw [if_pos hpb] at ho ⊢
        have hpn := pu_new s t.c t.page t.slot t.pa (by omega)
        rcases feKept_cases ({ t with gave := g, next := 2, put := some (puNew s t.c t.page t.slot t.pa) } : Fe) _ rfl with ⟨h1, _⟩ | ⟨h1, h2, h3⟩ | ⟨h1, h2, h3⟩
        · simp [puNew] at h1
        · rw [h3] at ho ⊢
          dsimp only at ho ⊢
          refine ⟨⟨ho, h.c, fun x hx => ?_, fun e => (by dsimp only at e; omega), fun _ e => (by dsimp only at e ⊢; simpa using e)⟩, ?_, fun e => (by rw [hgv] at e; cases e)⟩
          · have hx : some (puNew s t.c t.page t.slot t.pa) = some x := hx
            injection hx with hx; subst hx; exact hpn.2.trans h.c
          · unfold feLeft
            dsimp only
            split
            · omega
            · rw [if_neg (by decide), if_neg (by decide), if_neg (by decide), if_pos rfl]
              omega
        · rw [h3] at ho ⊢
          dsimp only at ho ⊢
          refine ⟨⟨ho, h.c, fun x hx => ?_, fun e => (by dsimp only at e; omega), fun _ e => (by dsimp only at e ⊢; simpa using e)⟩, ?_, fun e => (by rw [hgv] at e; cases e)⟩
          · have hx : some (puNew s t.c t.page t.slot t.pa) = some x := hx
            injection hx with hx; subst hx; exact hpn.2.trans h.c
          · unfold feLeft
            dsimp only
            split
            · omega
            · rw [if_neg (by decide), if_neg (by decide), if_pos rfl]
              omega
      · rw [if_neg hpb] at ho ⊢
        dsimp only at ho ⊢
        refine ⟨⟨ho, h.c, h.put, fun e => (by dsimp only at e; omega), fun _ e => (by dsimp only at e ⊢; simpa using e)⟩, ?_, fun e => (by rw [hgv] at e; cases e)⟩
        unfold feLeft
        dsimp only
        split
        · omega
        · rw [if_neg (by decide), if_neg (by decide), if_neg (by decide), if_pos rfl]
          omega
  rw [if_neg n1] at ho ⊢
  rw [if_neg n1]
  have hgt := h.gv2 (by omega) hd
  have c6 := c6 (by omega)
  by_cases n2 : t.next = 2
  · obtain ⟨hk, x, hx, hxo, hxd⟩ := c8 n2
    have hst := pu_step hxo hxd hf
    have hxc := h.put x hx
    have hnn := pu_nonneg (puStep_ok m hxo)
    rw [if_pos n2, hx] at ho ⊢
    rw [if_pos n2]
    dsimp only at ho ⊢
    refine ⟨hst.1.of hxc, ?_⟩
    have hput : ∀ y, some (puStep s x m).1 = some y → y.c = cl := fun y hy => by injection hy with hy; subst hy; exact hst.2.1.trans hxc
    rcases feKept_cases ({ t with put := some (puStep s x m).1 } : Fe) _ rfl with ⟨h1, h3⟩ | ⟨h1, h2, h3⟩ | ⟨h1, h2, h3⟩
    · rw [h3] at ho ⊢
      exact ⟨⟨ho, h.c, hput, fun e => (by dsimp only at e; omega), fun _ _ => hgt⟩, by rw [hdn _ rfl]; omega, fun _ => hgt⟩
    · rw [h3] at ho ⊢
      refine ⟨⟨ho, h.c, hput, fun e => (by dsimp only at e; omega), fun _ _ => hgt⟩, ?_, fun _ => hgt⟩
      unfold feLeft
      dsimp only
      rw [if_neg hnd, if_neg (by decide), if_neg (by decide), if_neg (by decide), if_pos rfl]
      omega
    · rw [h3] at ho ⊢
      refine ⟨⟨ho, h.c, hput, fun e => (by dsimp only at e; omega), fun _ _ => hgt⟩, ?_, fun _ => hgt⟩
      unfold feLeft
      dsimp only
      rw [if_neg hnd, if_neg n0, if_neg n1, if_pos n2]
      omega
  rw [if_neg n2] at ho ⊢
  rw [if_neg n2]
  by_cases n3 : t.next = 3
  · have c6 : t.pk = 2 ∧ 0 < slotsV t.pa ∧ (0 ≤ t.slot ∧ t.slot < slotsV t.pa) := by
      have := c9 n3
      rcases c6 with h | h
      · omega
      · exact h
    have hsl := slotsV_ok c6.2.1
    have hm2 := hf.slotA (x := t.page) (i := t.slot) c2 (by omega)
    rw [if_pos n3] at ho ⊢
    rw [if_pos n3]
    exact ⟨(Acts.store hm2 (openW_u64 _)).of h.c, ⟨ho, h.c, h.put, fun e => (by dsimp only at e; omega), fun _ _ => hgt⟩, by rw [hdn _ rfl]; omega, fun _ => hgt⟩
  rw [if_neg n3] at ho ⊢
  rw [if_neg n3]
  have n4 : t.next = 4 := by omega
  have c10 := c10 n4
  have c6 : 1 ≤ t.pa ∧ t.pa ≤ 8 ∧ t.pa ≤ s.p - t.page := by rcases c6 with h | h <;> omega
  split at ho <;> rename_i h1
  · rw [if_pos h1]
    exact ⟨(Acts.store hm1 word0).of h.c, ⟨ho, h.c, h.put, fun e => (by dsimp only at e; omega), fun _ _ => hgt⟩, by rw [hdn _ rfl]; omega, fun _ => hgt⟩
  · rw [if_neg h1]
    refine ⟨(Acts.store (hf.pageA (by omega)) word0).of h.c, ⟨ho, h.c, h.put, fun e => (by dsimp only at e; omega), fun _ _ => hgt⟩, ?_, fun _ => hgt⟩
    unfold feLeft
    dsimp only
    rw [if_neg hnd, if_neg n0, if_neg n1, if_neg n2, if_neg n3]
    omega
end Go.Proofs.YtcgakbgmdabnkaaGreat
