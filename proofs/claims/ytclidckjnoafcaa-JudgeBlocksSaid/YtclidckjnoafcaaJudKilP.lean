/- One that is killed: plain. -/
import Derived.Test.YtclidckjnoafcaaJudP

namespace Go.Proofs.Ytclidckjnoafcaa

/-- Does client c live, as the events say; is its last event a Took? -/
def livesL (c : Int) (l : List Ev) : Bool := l.foldl (fun b e => if e.c = c ∧ e.k = 0 then true else if e.c = c ∧ e.k = 1 then false else b) false
def tookL (c : Int) (l : List Ev) : Bool := l.foldl (fun b e => if e.c = c then decide (e.k = 3) else b) false
theorem livesL_snoc (c : Int) (l : List Ev) (e : Ev) : livesL c (l ++ [e]) = if e.c = c ∧ e.k = 0 then true else if e.c = c ∧ e.k = 1 then false else livesL c l := by simp [livesL]
theorem tookL_snoc (c : Int) (l : List Ev) (e : Ev) : tookL c (l ++ [e]) = if e.c = c then decide (e.k = 3) else tookL c l := by simp [tookL]
/-- Of a client behind events that were in order. -/
structure KInv (p : Pt) (lives took : Bool) : Prop where
  was : p.was = false → p.lives = false ∧ p.asks = false
  lives : p.lives = lives
  took : p.lives = true → (p.asks && p.took) = took
  may : p.asks = true → p.took = true → p.k = 1 ∨ p.gave = true
theorem KInv.ab {p : Pt} {a b : Bool} (l : List Bk) (h : KInv p a b) : KInv (abP l p) a b := by
  unfold abP
  split
  · exact ⟨h.was, h.lives, h.took, h.may⟩
  · exact h
/-- One event in order. -/
theorem KInv.hear {j : Jd} {e : Ev} {i : Nat} {a b : Bool} (hi : i < j.ps.length) (h : KInv (j.ps.getD i Pt.zero) a b) (ho : hearB j e = true) :
    KInv ((hearJ j e).ps.getD i Pt.zero) (if e.c = i ∧ e.k = 0 then true else if e.c = i ∧ e.k = 1 then false else a) (if e.c = i then decide (e.k = 3) else b) := by
  unfold hearB at ho
  simp only [Bool.and_eq_true, decide_eq_true_eq] at ho
  obtain ⟨h0, h1⟩ := ho
  have hJ : (hearJ j e).ps = (whyJ j.W j.l j.ps e).ps.map (abP (whyJ j.W j.l j.ps e).l) := by
    unfold hearJ
    rw [if_neg (by simpa using h0), if_neg (by simpa using h1)]
  have hlen : (whyJ j.W j.l j.ps e).ps.length = j.ps.length := by
    unfold whyJ
    split
    · rfl
    · split
      · simp
      · split
        · rfl
        · split
          · split <;> simp
          · split
            · split <;> simp
            · split <;> simp
  have hg : ((whyJ j.W j.l j.ps e).ps.map (abP (whyJ j.W j.l j.ps e).l)).getD i Pt.zero = abP (whyJ j.W j.l j.ps e).l ((whyJ j.W j.l j.ps e).ps.getD i Pt.zero) := by
    have : i < (whyJ j.W j.l j.ps e).ps.length := by omega
    simp [this]
  rw [hJ, hg]
  refine KInv.ab _ ?_
  clear hJ hg
  have hget : ∀ (n : Nat) (q : Pt), (j.ps.set n q).getD i Pt.zero = if n = i then q else j.ps.getD i Pt.zero := fun n q => by
    by_cases hn : n = i
    · subst hn; simp [hi]
    · simp [hn]
  unfold whyJ at h1 ⊢
  by_cases g1 : e.c < 0 ∨ (j.ps.length : Int) ≤ e.c ∨ e.k < 0 ∨ 5 < e.k
  · rw [if_pos g1] at h1; exact absurd h1 (by simp)
  rw [if_neg g1] at h1 ⊢
  have hci : (e.c = (i : Int)) ↔ e.c.toNat = i := by omega
  by_cases g2 : e.k < 3
  · rw [if_pos g2] at h1 ⊢
    dsimp only at h1 ⊢
    rw [hget]
    by_cases hc : e.c.toNat = i
    · rw [if_pos hc]
      rw [hc] at h1 ⊢
      have hc' := hci.2 hc
      unfold beginsP
      rw [if_neg (by simpa using h1)]
      simp only [hc', true_and, if_true]
      unfold beginsC at h1
      by_cases k0 : e.k = 0
      · simp only [k0, if_true] at h1 ⊢
        have hw : (j.ps.getD i Pt.zero).was = false := by
          cases hx : (j.ps.getD i Pt.zero).was with
          | false => rfl
          | true => rw [hx] at h1; simp at h1
        have := h.was hw
        exact ⟨fun e => by simp at e, rfl, fun _ => (by show ((j.ps.getD i Pt.zero).asks && (j.ps.getD i Pt.zero).took) = _; rw [this.2]; rfl), fun e => (by have e2 := this.2.symm.trans e; cases e2)⟩
      · rw [if_neg k0] at h1
        by_cases k1 : e.k = 1
        · simp only [k1, if_true, show ¬ (1 : Int) = 0 by omega, if_false] at h1 ⊢
          have hl : (j.ps.getD i Pt.zero).lives = true := by
            cases hx : (j.ps.getD i Pt.zero).lives with
            | true => rfl
            | false => rw [hx] at h1; simp at h1
          exact ⟨fun _ => ⟨rfl, rfl⟩, rfl, fun e => by simp at e, fun e => by simp at e⟩
        · rw [if_neg k1] at h1
          have k2 : e.k = 2 := by omega
          simp only [k2, show ¬ (2 : Int) = 0 by omega, show ¬ (2 : Int) = 1 by omega, if_false] at h1 ⊢
          have hl : (j.ps.getD i Pt.zero).lives = true := by
            cases hx : (j.ps.getD i Pt.zero).lives with
            | true => rfl
            | false => rw [hx] at h1; simp at h1
          exact ⟨fun e => by simp at e, h.lives ▸ hl.symm, fun _ => by simp, fun _ e => by simp at e⟩
    · rw [if_neg hc]
      have hc' : ¬ e.c = (i : Int) := fun h => hc (hci.1 h)
      simp only [hc', false_and, if_false]
      exact h
  · rw [if_neg g2] at h1 ⊢
    have k0 : ¬ e.k = 0 := by omega
    have k1 : ¬ e.k = 1 := by omega
    simp only [k0, k1, and_false, if_false]
    by_cases g3 : (j.ps.getD e.c.toNat Pt.zero).lives = false ∨ (j.ps.getD e.c.toNat Pt.zero).asks = false
    · rw [if_pos g3] at h1; exact absurd h1 (by simp)
    rw [if_neg g3] at h1 ⊢
    have ga : (j.ps.getD e.c.toNat Pt.zero).lives = true ∧ (j.ps.getD e.c.toNat Pt.zero).asks = true := by
      cases h1 : (j.ps.getD e.c.toNat Pt.zero).lives <;> cases h2 : (j.ps.getD e.c.toNat Pt.zero).asks <;> simp_all
    by_cases g4 : e.k = 3
    · rw [if_pos g4] at h1 ⊢
      by_cases g5 : tookC j.W j.l (j.ps.getD e.c.toNat Pt.zero) e = 0
      · rw [if_pos g5]
        dsimp only
        rw [hget]
        by_cases hc : e.c.toNat = i
        · rw [if_pos hc, if_pos (hci.2 hc)]
          rw [hc] at ga g5 ⊢
          refine ⟨h.was, h.lives, fun _ => (by show ((j.ps.getD i Pt.zero).asks && true) = _; rw [ga.2, g4]; rfl), fun _ _ => ?_⟩
          dsimp only
          unfold tookC at g5
          by_cases hm : mayT (j.ps.getD i Pt.zero) = false ∨ (j.ps.getD i Pt.zero).took = true ∨ lenB (j.ps.getD i Pt.zero).n = false ∨ lenV (j.ps.getD i Pt.zero).n ≠ e.n
          · rw [if_pos hm] at g5; omega
          · have hm1 : mayT (j.ps.getD i Pt.zero) = true := by
              cases hx : mayT (j.ps.getD i Pt.zero) with
              | true => rfl
              | false => exact absurd (Or.inl hx) hm
            unfold mayT at hm1
            simp only [Bool.or_eq_true, Bool.and_eq_true, decide_eq_true_eq] at hm1
            rcases hm1 with hm1 | hm1
            · exact .inl hm1
            · exact .inr hm1.2
        · rw [if_neg hc, if_neg (fun h => hc (hci.1 h))]; exact h
      · rw [if_neg g5] at h1; exact absurd h1 g5
    · rw [if_neg g4] at h1 ⊢
      have d3 : decide (e.k = 3) = false := decide_eq_false g4
      rw [d3]
      by_cases g6 : e.k = 4
      · rw [if_pos g6] at h1 ⊢
        by_cases g5 : gaveC j.l (j.ps.getD e.c.toNat Pt.zero) e = 0
        · rw [if_pos g5]
          dsimp only
          rw [hget]
          by_cases hc : e.c.toNat = i
          · rw [if_pos hc, if_pos (hci.2 hc)]
            rw [hc] at ga g5 ⊢
            refine ⟨h.was, h.lives, fun _ => ?_, fun _ _ => .inr rfl⟩
            dsimp only
            unfold gaveC at g5
            by_cases hm : mayG (j.ps.getD i Pt.zero) = false ∨ (j.ps.getD i Pt.zero).gave = true ∨ e.at' ≠ (j.ps.getD i Pt.zero).a
            · rw [if_pos hm] at g5; omega
            · cases ht : (j.ps.getD i Pt.zero).took with
              | false => simp
              | true =>
                rcases h.may ga.2 ht with hk | hk
                · have : mayG (j.ps.getD i Pt.zero) = false := by unfold mayG; rw [hk]; rfl
                  exact absurd (Or.inl this) hm
                · exact absurd (Or.inr (Or.inl hk)) hm
          · rw [if_neg hc, if_neg (fun h => hc (hci.1 h))]; exact h
        · rw [if_neg g5] at h1; exact absurd h1 g5
      · rw [if_neg g6] at h1 ⊢
        by_cases g5 : answersB (j.ps.getD e.c.toNat Pt.zero) e = true
        · rw [if_pos g5]
          dsimp only
          rw [hget]
          by_cases hc : e.c.toNat = i
          · rw [if_pos hc, if_pos (hci.2 hc)]
            rw [hc] at ga ⊢
            exact ⟨fun e => ⟨(h.was e).1, rfl⟩, h.lives, fun _ => by simp, fun e => by simp at e⟩
          · rw [if_neg hc, if_neg (fun h => hc (hci.1 h))]; exact h
        · rw [if_neg g5] at h1; exact absurd h1 (by simp)
/-- All events were in order. -/
def allIn (j : Jd) (es : List Ev) : Prop := ∀ i (h : i < es.length), hearB (runJ j (es.take i)) es[i] = true
theorem allIn.snoc {j : Jd} {es : List Ev} {e : Ev} (h : allIn j (es ++ [e])) : allIn j es ∧ hearB (runJ j es) e = true := by
  refine ⟨fun i hi => ?_, ?_⟩
  · have := h i (by rw [List.length_append]; omega)
    rw [List.take_append_of_le_length (by omega), List.getElem_append_left hi] at this
    exact this
  · have := h es.length (by simp)
    simpa using this
theorem allIn_nil (j : Jd) : allIn j [] := fun i h => absurd h (by simp)
theorem allIn.next {j : Jd} {es : List Ev} {e : Ev} (h : allIn j es) (he : hearB (runJ j es) e = true) : allIn j (es ++ [e]) := by
  intro i hi
  rcases Nat.lt_or_ge i es.length with h1 | h1
  · rw [List.take_append_of_le_length (by omega), List.getElem_append_left h1]
    exact h i h1
  · have : i = es.length := by rw [List.length_append] at hi; simp at hi; omega
    subst this
    simpa using he
theorem hear_length (j : Jd) (e : Ev) : (hearJ j e).ps.length = j.ps.length := by
  have hw : (whyJ j.W j.l j.ps e).ps.length = j.ps.length := by
    unfold whyJ
    split
    · rfl
    · split
      · simp
      · split
        · rfl
        · split
          · split <;> simp
          · split
            · split <;> simp
            · split <;> simp
  unfold hearJ
  split
  · rfl
  · split
    · exact hw
    · simp [hw]
theorem runJ_length (j : Jd) (es : List Ev) : (runJ j es).ps.length = j.ps.length := by
  induction es generalizing j with
  | nil => rfl
  | cons e es ih => rw [runJ_cons, ih, hear_length]
theorem kill_inv (p c m : Int) (i : Nat) : ∀ (n : Nat) (es : List Ev), es.length = n → i < (newJ p c m).ps.length → allIn (newJ p c m) es → KInv ((runJ (newJ p c m) es).ps.getD i Pt.zero) (livesL i es) (tookL i es) := by
  intro n
  induction n with
  | zero =>
    intro es he hi _
    obtain rfl := List.eq_nil_of_length_eq_zero he
    have hz : (newJ p c m).ps.getD i Pt.zero = Pt.zero := by
      unfold newJ at hi ⊢
      split at hi <;> rename_i hm
      · rw [if_pos hm]; simp at hi; simp [hi]
      · simp at hi
    show KInv ((newJ p c m).ps.getD i Pt.zero) _ _
    rw [hz]
    exact ⟨fun _ => ⟨rfl, rfl⟩, rfl, fun e => (by cases e), fun e => (by cases e)⟩
  | succ n ih =>
    intro es he hi ha
    obtain ⟨xs, e, rfl⟩ : ∃ xs e, es = xs ++ [e] := ⟨es.dropLast, es.getLast (fun h => by rw [h] at he; simp at he), (List.dropLast_concat_getLast _).symm⟩
    obtain ⟨h1, h2⟩ := ha.snoc
    have hx := ih xs (by simpa using he) hi h1
    rw [runJ_snoc, livesL_snoc, tookL_snoc]
    exact hx.hear (by rw [runJ_length]; exact hi) h2
theorem all_why (j : Jd) (h0 : j.why = 0) : ∀ (n : Nat) (es : List Ev), es.length = n → allIn j es → (runJ j es).why = 0 := by
  intro n
  induction n with
  | zero =>
    intro es he _
    obtain rfl := List.eq_nil_of_length_eq_zero he
    exact h0
  | succ n ih =>
    intro es he ha
    obtain ⟨xs, e, rfl⟩ : ∃ xs e, es = xs ++ [e] := ⟨es.dropLast, es.getLast (fun h => by rw [h] at he; simp at he), (List.dropLast_concat_getLast _).symm⟩
    obtain ⟨h1, h2⟩ := ha.snoc
    rw [runJ_snoc, hear_ok h2]
    exact ih xs (by simpa using he) h1
def killE (i : Nat) : Ev := ⟨1, i, 0, 0, 0, 0, 0, 0⟩
def startE (i : Nat) : Ev := ⟨0, i, 0, 0, 0, 0, 0, 0⟩
/-- A client is killed: may it be, what is left. -/
theorem kill_law (p c m : Int) (es : List Ev) (i : Nat) (hi : i < (newJ p c m).ps.length) (ha : allIn (newJ p c m) es) :
    hearB (runJ (newJ p c m) es) (killE i) = (livesL i es && !tookL i es) ∧
    (hearB (runJ (newJ p c m) es) (killE i) = true → (hearJ (runJ (newJ p c m) es) (killE i)).l = (runJ (newJ p c m) es).l ∧ ((hearJ (runJ (newJ p c m) es) (killE i)).ps.getD i Pt.zero).asks = false ∧
      hearB (hearJ (runJ (newJ p c m) es) (killE i)) (startE i) = false) := by
  have hk := kill_inv p c m i _ es rfl hi ha
  have hw := all_why (newJ p c m) (by unfold newJ; split <;> rfl) _ es rfl ha
  have hl : i < (runJ (newJ p c m) es).ps.length := by rw [runJ_length]; exact hi
  generalize livesL i es = a at *
  generalize tookL i es = b at *
  generalize runJ (newJ p c m) es = J at *
  have hy : whyJ J.W J.l J.ps (killE i) = ⟨beginsC (J.ps.getD i Pt.zero) (killE i), J.l, J.ps.set i (beginsP (J.ps.getD i Pt.zero) (killE i))⟩ := by
    unfold whyJ killE
    dsimp only
    rw [if_neg (by omega), if_pos (by omega), Int.toNat_natCast]
  have hb : hearB J (killE i) = (a && !b) := by
    unfold hearB
    rw [hy, hw]
    dsimp only
    unfold beginsC killE
    dsimp only
    rw [if_neg (by omega), if_pos rfl]
    have h1 := hk.lives
    have h2 := hk.took
    cases hx : (J.ps.getD i Pt.zero).lives with
    | false => rw [hx] at h1; subst h1; simp
    | true =>
      rw [hx] at h1
      have h3 := h2 hx
      subst h1
      rw [← h3]
      cases (J.ps.getD i Pt.zero).asks <;> cases (J.ps.getD i Pt.zero).took <;> simp
  refine ⟨hb, fun ht => ?_⟩
  have hok := hear_ok ht
  have hc : beginsC (J.ps.getD i Pt.zero) (killE i) = 0 := by
    have := (hearB_iff J (killE i)).1 ht
    rw [hy] at this
    exact this.2
  have hwas : (J.ps.getD i Pt.zero).was = true := by
    cases hx : (J.ps.getD i Pt.zero).was with
    | true => rfl
    | false =>
      have h1 := (hk.was hx).1
      unfold beginsC killE at hc
      dsimp only at hc
      rw [if_neg (by omega), if_pos rfl, if_pos h1] at hc
      cases hc
  have hP : beginsP (J.ps.getD i Pt.zero) (killE i) = { J.ps.getD i Pt.zero with lives := false, asks := false } := by
    unfold beginsP
    rw [if_neg (by simpa using hc)]
    unfold killE
    dsimp only
    rw [if_neg (by omega), if_pos rfl]
  have hg : (hearJ J (killE i)).ps.getD i Pt.zero = { J.ps.getD i Pt.zero with lives := false, asks := false } := by
    rw [hok, hy, hP]
    dsimp only
    have : i < (J.ps.set i { J.ps.getD i Pt.zero with lives := false, asks := false }).length := by simpa using hl
    simp only [List.getD_eq_getElem?_getD, List.getElem?_map, List.getElem?_set_self hl, Option.map_some, Option.getD_some]
    unfold abP
    rw [if_neg (by simp)]
  refine ⟨by rw [hok, hy], by rw [hg], ?_⟩
  have hl2 : (hearJ J (killE i)).ps.length = J.ps.length := hear_length J _
  rw [Bool.eq_false_iff]
  intro h
  have h2 := ((hearB_iff _ _).1 h).2
  unfold whyJ startE at h2
  dsimp only at h2
  rw [if_neg (by omega), if_pos (by omega), Int.toNat_natCast] at h2
  rw [hg] at h2
  unfold beginsC at h2
  dsimp only at h2
  rw [if_pos rfl, if_pos hwas] at h2
  cases h2
end Go.Proofs.Ytclidckjnoafcaa
