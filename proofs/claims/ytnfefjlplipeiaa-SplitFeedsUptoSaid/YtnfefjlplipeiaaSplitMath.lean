/-
  The splitter as a plain machine on bytes: its runs are those between two zeros that follow one another; what is held. No condition.
-/
namespace Go.Proofs.Ytnfefjlplipeiaa

abbrev Run := Nat × List UInt8
structure Sp where
  pos : Nat
  md : Option Run

def Sp.step (s : Sp) (c : UInt8) : Sp × Option Run :=
  match s.md with
  | none => if c = 0 then (⟨s.pos + 1, some (s.pos, [])⟩, none) else (⟨s.pos + 1, none⟩, none)
  | some (f, l) => if c = 0 then (⟨s.pos + 1, some (s.pos, [])⟩, if l = [] then none else some (f, l)) else if l.length = 2200 then (⟨s.pos + 1, none⟩, none) else (⟨s.pos + 1, some (f, l ++ [c])⟩, none)

def Sp.feed (s : Sp) : List UInt8 → Sp × List Run
  | [] => (s, [])
  | c :: cs => (((s.step c).1.feed cs).1, (s.step c).2.toList ++ ((s.step c).1.feed cs).2)

theorem feed_append (s : Sp) (a b : List UInt8) : s.feed (a ++ b) = (((s.feed a).1.feed b).1, (s.feed a).2 ++ ((s.feed a).1.feed b).2) := by
  induction a generalizing s with
  | nil => simp [Sp.feed]
  | cons c a ih => simp only [List.cons_append, Sp.feed, ih, List.append_assoc]
theorem feed_snoc (s : Sp) (a : List UInt8) (c : UInt8) : s.feed (a ++ [c]) = (((s.feed a).1.step c).1, (s.feed a).2 ++ ((s.feed a).1.step c).2.toList) := by
  rw [feed_append]; simp [Sp.feed]
theorem step_pos (s : Sp) (c : UInt8) : (s.step c).1.pos = s.pos + 1 := by
  unfold Sp.step
  split <;> (try split) <;> (try split) <;> rfl
theorem feed_pos (s : Sp) (l : List UInt8) : (s.feed l).1.pos = s.pos + l.length := by
  induction l generalizing s with
  | nil => rfl
  | cons c l ih => simp only [Sp.feed, ih, step_pos, List.length_cons]; omega
theorem feed_count (s : Sp) (l : List UInt8) : (s.feed l).2.length ≤ l.length := by
  induction l generalizing s with
  | nil => simp [Sp.feed]
  | cons c l ih =>
    simp only [Sp.feed, List.length_append, List.length_cons]
    have h1 := ih (s.step c).1
    have h2 : (s.step c).2.toList.length ≤ 1 := by cases (s.step c).2 <;> simp
    omega
theorem feed_eta (s : Sp) (l : List UInt8) : (⟨s.pos + l.length, (s.feed l).1.md⟩ : Sp) = (s.feed l).1 := by
  rw [← feed_pos]
theorem feed_take_s (s : Sp) (b : List UInt8) (i : Nat) (h : i < b.length) : s.feed (b.take (i + 1)) = (((s.feed (b.take i)).1.step (b[i]'h)).1, (s.feed (b.take i)).2 ++ ((s.feed (b.take i)).1.step (b[i]'h)).2.toList) := by
  rw [List.take_succ_eq_append_getElem h, feed_snoc]
theorem feed_eta_take (s : Sp) (b : List UInt8) (i : Nat) (h : i ≤ b.length) : (⟨s.pos + i, (s.feed (b.take i)).1.md⟩ : Sp) = (s.feed (b.take i)).1 := by
  have := feed_eta s (b.take i)
  rwa [List.length_take, Nat.min_eq_left h] at this
def fresh : Sp := ⟨0, none⟩
/-- runs of bytes; what is held behind them -/
def runsOf (b : List UInt8) : List Run := (fresh.feed b).2
def heldOf (b : List UInt8) : Nat := match (fresh.feed b).1.md with | none => 0 | some (_, l) => l.length
theorem feed_runs (a b : List UInt8) : ((fresh.feed a).1.feed b).2 = (runsOf (a ++ b)).drop (runsOf a).length := by
  unfold runsOf
  rw [feed_append, List.drop_left]
theorem runs_append (a b : List UInt8) : runsOf (a ++ b) = runsOf a ++ ((fresh.feed a).1.feed b).2 := by
  unfold runsOf
  rw [feed_append]

/-- how far the document's reckoning has come -/
def RefInv (b : List UInt8) (i : Nat) (last : Int) : Prop :=
  (last = -1 ∧ (fresh.feed (b.take i)).1.md = none ∧ ∀ j, j < i → b.getD j 1 ≠ 0) ∨
  ∃ L : Nat, last = L ∧ L < i ∧ b.getD L 1 = 0 ∧ (∀ j, L < j → j < i → b.getD j 1 ≠ 0) ∧ (fresh.feed (b.take i)).1.md = if i - L - 1 ≤ 2200 then some (L, (b.take i).drop (L + 1)) else none

theorem RefInv.start (b : List UInt8) : RefInv b 0 (-1) := .inl ⟨rfl, rfl, fun j h => absurd h (by omega)⟩

theorem feed_take (b : List UInt8) (i : Nat) (h : i < b.length) : fresh.feed (b.take (i + 1)) = (((fresh.feed (b.take i)).1.step (b[i]'h)).1, (fresh.feed (b.take i)).2 ++ ((fresh.feed (b.take i)).1.step (b[i]'h)).2.toList) := by
  rw [List.take_succ_eq_append_getElem h, feed_snoc]
theorem feed_take_pos (b : List UInt8) (i : Nat) (h : i ≤ b.length) : (fresh.feed (b.take i)).1.pos = i := by
  rw [feed_pos]; simp [fresh]; omega

theorem getD_at (b : List UInt8) (i : Nat) (h : i < b.length) : b.getD i 1 = b[i]'h := by simp [List.getD_eq_getElem?_getD, h]

theorem RefInv.other {b : List UInt8} {i : Nat} {last : Int} (h : RefInv b i last) (hi : i < b.length) (hc : b[i]'hi ≠ 0) : RefInv b (i + 1) last ∧ (fresh.feed (b.take (i + 1))).2 = (fresh.feed (b.take i)).2 := by
  have hft := feed_take b i hi
  have hseg : (b.take (i + 1)).drop 0 = b.take (i + 1) := rfl
  rcases h with ⟨rfl, hmd, hz⟩ | ⟨L, rfl, hL, hLz, hz, hmd⟩
  · have hs : (fresh.feed (b.take i)).1.step (b[i]'hi) = (⟨(fresh.feed (b.take i)).1.pos + 1, none⟩, none) := by
      unfold Sp.step; rw [hmd]; simp [hc]
    rw [hs] at hft
    refine ⟨.inl ⟨rfl, by rw [hft], fun j hj => ?_⟩, by rw [hft]; simp⟩
    by_cases e : j = i
    · subst e; rw [getD_at b j hi]; exact hc
    · exact hz j (by omega)
  · have hzz : ∀ j, L < j → j < i + 1 → b.getD j 1 ≠ 0 := by
      intro j h1 h2
      by_cases e : j = i
      · subst e; rw [getD_at b j hi]; exact hc
      · exact hz j h1 (by omega)
    have hd : (b.take (i + 1)).drop (L + 1) = (b.take i).drop (L + 1) ++ [b[i]'hi] := by
      rw [List.take_succ_eq_append_getElem hi, List.drop_append_of_le_length (by simp; omega)]
    have hl : ((b.take i).drop (L + 1)).length = i - L - 1 := by simp; omega
    by_cases h1 : i - L - 1 ≤ 2200
    · rw [if_pos h1] at hmd
      by_cases h2 : i - L - 1 = 2200
      · have hs : (fresh.feed (b.take i)).1.step (b[i]'hi) = (⟨(fresh.feed (b.take i)).1.pos + 1, none⟩, none) := by
          unfold Sp.step; rw [hmd]; simp only; rw [if_neg hc, if_pos (by rw [hl]; exact h2)]
        rw [hs] at hft
        refine ⟨.inr ⟨L, rfl, by omega, hLz, hzz, ?_⟩, by rw [hft]; simp⟩
        rw [hft, if_neg (by omega)]
      · have hs : (fresh.feed (b.take i)).1.step (b[i]'hi) = (⟨(fresh.feed (b.take i)).1.pos + 1, some (L, (b.take i).drop (L + 1) ++ [b[i]'hi])⟩, none) := by
          unfold Sp.step; rw [hmd]; simp only; rw [if_neg hc, if_neg (by rw [hl]; exact h2)]
        rw [hs] at hft
        refine ⟨.inr ⟨L, rfl, by omega, hLz, hzz, ?_⟩, by rw [hft]; simp⟩
        rw [hft, if_pos (by omega), hd]
    · rw [if_neg h1] at hmd
      have hs : (fresh.feed (b.take i)).1.step (b[i]'hi) = (⟨(fresh.feed (b.take i)).1.pos + 1, none⟩, none) := by
        unfold Sp.step; rw [hmd]; simp [hc]
      rw [hs] at hft
      refine ⟨.inr ⟨L, rfl, by omega, hLz, hzz, ?_⟩, by rw [hft]; simp⟩
      rw [hft, if_neg (by omega)]

/-- at a zero: what is told, and how it goes on -/
theorem RefInv.zero {b : List UInt8} {i : Nat} {last : Int} (h : RefInv b i last) (hi : i < b.length) (hc : b[i]'hi = 0) : RefInv b (i + 1) i ∧
    ((last = -1 ∧ (fresh.feed (b.take (i + 1))).2 = (fresh.feed (b.take i)).2) ∨ ∃ L : Nat, last = L ∧ L < i ∧
      (fresh.feed (b.take (i + 1))).2 = (fresh.feed (b.take i)).2 ++ (if 1 < i - L ∧ i - L - 1 ≤ 2200 then [(L, (b.take i).drop (L + 1))] else [])) := by
  have hft := feed_take b i hi
  have hp := feed_take_pos b i (by omega)
  have hnew : ∀ r, (fresh.feed (b.take (i + 1))) = (⟨i + 1, some (i, [])⟩, r) → RefInv b (i + 1) i := by
    intro r hr
    refine .inr ⟨i, rfl, by omega, by rw [getD_at b i hi]; exact hc, fun j h1 h2 => by omega, ?_⟩
    rw [hr, if_pos (by omega)]
    have : (b.take (i + 1)).drop (i + 1) = [] := by apply List.drop_eq_nil_of_le; simp; omega
    rw [this]
  rcases h with ⟨rfl, hmd, hz⟩ | ⟨L, rfl, hL, hLz, hz, hmd⟩
  · have hs : (fresh.feed (b.take i)).1.step (b[i]'hi) = (⟨i + 1, some (i, [])⟩, none) := by
      unfold Sp.step; rw [hmd]; simp [hc, hp]
    rw [hs] at hft
    exact ⟨hnew _ hft, .inl ⟨rfl, by rw [hft]; simp⟩⟩
  · have hl : ((b.take i).drop (L + 1)).length = i - L - 1 := by simp; omega
    by_cases h1 : i - L - 1 ≤ 2200
    · rw [if_pos h1] at hmd
      have hs : (fresh.feed (b.take i)).1.step (b[i]'hi) = (⟨i + 1, some (i, [])⟩, if (b.take i).drop (L + 1) = [] then none else some (L, (b.take i).drop (L + 1))) := by
        unfold Sp.step; rw [hmd]; simp only; rw [if_pos hc, hp]
      rw [hs] at hft
      refine ⟨hnew _ hft, .inr ⟨L, rfl, hL, ?_⟩⟩
      rw [hft]
      by_cases h2 : 1 < i - L
      · rw [if_neg (fun e => by rw [e] at hl; simp at hl; omega), if_pos ⟨h2, h1⟩]; rfl
      · rw [if_pos (List.eq_nil_of_length_eq_zero (by omega)), if_neg (fun h => h2 h.1)]; rfl
    · rw [if_neg h1] at hmd
      have hs : (fresh.feed (b.take i)).1.step (b[i]'hi) = (⟨i + 1, some (i, [])⟩, none) := by
        unfold Sp.step; rw [hmd]; simp [hc, hp]
      rw [hs] at hft
      refine ⟨hnew _ hft, .inr ⟨L, rfl, hL, ?_⟩⟩
      rw [hft, if_neg (fun h => h1 h.2)]; rfl

theorem RefInv.exists (b : List UInt8) (i : Nat) (hi : i ≤ b.length) : ∃ last, RefInv b i last := by
  induction i with
  | zero => exact ⟨_, RefInv.start b⟩
  | succ i ih =>
    obtain ⟨last, h⟩ := ih (by omega)
    by_cases hc : b[i]'(by omega) = 0
    · exact ⟨_, (h.zero (by omega) hc).1⟩
    · exact ⟨_, (h.other (by omega) hc).1⟩

/-- what is held, by the last zero -/
theorem held_last (b : List UInt8) (i : Nat) (hi : i < b.length) (h0 : b[i]'hi = 0) (hz : ∀ j, i < j → j < b.length → b.getD j 1 ≠ 0) : heldOf b = if b.length - 1 - i > 2200 then 0 else b.length - 1 - i := by
  obtain ⟨last, h⟩ := RefInv.exists b b.length (Nat.le_refl _)
  have ht : b.take b.length = b := List.take_length
  rcases h with ⟨_, _, hn⟩ | ⟨L, _, hL, hLz, hzz, hmd⟩
  · exact absurd (by rw [getD_at b i hi]; exact h0) (hn i hi)
  · have e : L = i := by
      rcases Nat.lt_trichotomy L i with h | h | h
      · exact absurd (by rw [getD_at b i hi]; exact h0) (hzz i h hi)
      · exact h
      · exact absurd hLz (hz L h hL)
    subst e
    unfold heldOf
    rw [ht] at hmd
    rw [hmd]
    by_cases h1 : b.length - L - 1 ≤ 2200
    · rw [if_pos h1, if_neg (by omega)]; simp; omega
    · rw [if_neg h1, if_pos (by omega)]
theorem held_none (b : List UInt8) (hz : ∀ j, j < b.length → b.getD j 1 ≠ 0) : heldOf b = 0 := by
  obtain ⟨last, h⟩ := RefInv.exists b b.length (Nat.le_refl _)
  have ht : b.take b.length = b := List.take_length
  rcases h with ⟨_, hmd, hn⟩ | ⟨L, _, hL, hLz, hzz, hmd⟩
  · unfold heldOf; rw [ht] at hmd; rw [hmd]
  · exact absurd hLz (hz L hL)
theorem heldOf_le (b : List UInt8) : heldOf b ≤ b.length := by
  obtain ⟨last, h⟩ := RefInv.exists b b.length (Nat.le_refl _)
  have ht : b.take b.length = b := List.take_length
  rcases h with ⟨_, hmd, hn⟩ | ⟨L, _, hL, hLz, hzz, hmd⟩
  · unfold heldOf; rw [ht] at hmd; rw [hmd]; exact Nat.zero_le _
  · unfold heldOf; rw [ht] at hmd; rw [hmd]
    by_cases h1 : b.length - L - 1 ≤ 2200
    · rw [if_pos h1]; simp
    · rw [if_neg h1]; exact Nat.zero_le _
end Go.Proofs.Ytnfefjlplipeiaa
