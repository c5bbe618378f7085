/-
  More of the plain machine: where each run stands in the bytes; the runs of bytes with a fence between. No condition.
-/
import Derived.Test.YtnfefjlplipeiaaSplitMath
namespace Go.Proofs.Ytnfefjlplipeiaa
set_option linter.unusedSimpArgs false

/-- a run and its place in the bytes -/
def Stands (p : List UInt8) (r : Run) : Prop := ∃ pre post, p = pre ++ 0 :: (r.2 ++ 0 :: post) ∧ pre.length = r.1 ∧ (0 : UInt8) ∉ r.2 ∧ 1 ≤ r.2.length ∧ r.2.length ≤ 2200
def MdOk (p : List UInt8) (md : Option Run) : Prop := ∀ f l, md = some (f, l) → ∃ pre, p = pre ++ 0 :: l ∧ pre.length = f ∧ (0 : UInt8) ∉ l ∧ l.length ≤ 2200

theorem Stands.more {p : List UInt8} {r : Run} (h : Stands p r) (q : List UInt8) : Stands (p ++ q) r := by
  obtain ⟨pre, post, h1, h2⟩ := h
  exact ⟨pre, post ++ q, by rw [h1]; simp, h2⟩
theorem Stands.lt {p : List UInt8} {r : Run} (h : Stands p r) : r.1 + r.2.length + 1 < p.length := by
  obtain ⟨pre, post, h1, h2, _⟩ := h
  rw [h1, ← h2]; simp; omega

structure Inv (p : List UInt8) : Prop where
  md : MdOk p (fresh.feed p).1.md
  runs : ∀ r ∈ runsOf p, Stands p r
  sorted : (runsOf p).Pairwise fun a b => a.1 < b.1
  last : ∀ f l, (fresh.feed p).1.md = some (f, l) → ∀ r ∈ runsOf p, r.1 < f

theorem Inv.nil : Inv [] := ⟨fun f l h => by simp [Sp.feed, fresh] at h, fun r h => by simp [runsOf, Sp.feed] at h, by simp [runsOf, Sp.feed], fun f l h => by simp [Sp.feed, fresh] at h⟩

theorem fresh_pos (p : List UInt8) : (fresh.feed p).1.pos = p.length := by rw [feed_pos]; simp [fresh]

theorem Inv.snoc {p : List UInt8} (h : Inv p) (c : UInt8) : Inv (p ++ [c]) := by
  obtain ⟨h1, h2, h3, h4⟩ := h
  have hp := fresh_pos p
  have hs := feed_snoc fresh p c
  unfold runsOf at *
  generalize (fresh.feed p).1 = s at *
  generalize (fresh.feed p).2 = rs at *
  obtain ⟨pos, md⟩ := s
  simp only at hp
  subst hp
  cases md with
  | none =>
    by_cases hc : c = 0
    · subst hc
      simp only [Sp.step, if_true, Option.toList_none, List.append_nil] at hs
      refine ⟨fun f l e => ?_, fun r hr => ?_, ?_, fun f l e r hr => ?_⟩
      · rw [hs] at e; simp only [Option.some.injEq, Prod.mk.injEq] at e; obtain ⟨rfl, rfl⟩ := e; exact ⟨p, rfl, rfl, by simp, by simp⟩
      · rw [runsOf, hs] at hr; exact (h2 r hr).more _
      · rw [runsOf, hs]; exact h3
      · rw [hs] at e; rw [runsOf, hs] at hr; simp only [Option.some.injEq, Prod.mk.injEq] at e; obtain ⟨rfl, rfl⟩ := e; have := (h2 r hr).lt; omega
    · simp only [Sp.step, if_neg hc, Option.toList_none, List.append_nil] at hs
      refine ⟨fun f l e => ?_, fun r hr => ?_, ?_, fun f l e r hr => ?_⟩
      · rw [hs] at e; cases e
      · rw [runsOf, hs] at hr; exact (h2 r hr).more _
      · rw [runsOf, hs]; exact h3
      · rw [hs] at e; cases e
  | some x =>
    obtain ⟨f0, l0⟩ := x
    obtain ⟨pre, e0, e1, e2, e3⟩ := h1 f0 l0 rfl
    have hlast := h4 f0 l0 rfl
    have hlen : p.length = f0 + 1 + l0.length := by rw [e0]; simp; omega
    by_cases hc : c = 0
    · subst hc
      by_cases hl : l0 = []
      · simp only [Sp.step, if_true, if_pos hl, Option.toList_none, List.append_nil] at hs
        refine ⟨fun f l e => ?_, fun r hr => ?_, ?_, fun f l e r hr => ?_⟩
        · rw [hs] at e; simp only [Option.some.injEq, Prod.mk.injEq] at e; obtain ⟨rfl, rfl⟩ := e; exact ⟨p, rfl, rfl, by simp, by simp⟩
        · rw [runsOf, hs] at hr; exact (h2 r hr).more _
        · rw [runsOf, hs]; exact h3
        · rw [hs] at e; rw [runsOf, hs] at hr; simp only [Option.some.injEq, Prod.mk.injEq] at e; obtain ⟨rfl, rfl⟩ := e; have := (h2 r hr).lt; omega
      · simp only [Sp.step, if_true, if_neg hl, Option.toList_some] at hs
        have hst : Stands (p ++ [0]) (f0, l0) := ⟨pre, [], by rw [e0]; simp, e1, e2, List.length_pos_iff.2 hl, e3⟩
        refine ⟨fun f l e => ?_, fun r hr => ?_, ?_, fun f l e r hr => ?_⟩
        · rw [hs] at e; simp only [Option.some.injEq, Prod.mk.injEq] at e; obtain ⟨rfl, rfl⟩ := e; exact ⟨p, rfl, rfl, by simp, by simp⟩
        · rw [runsOf, hs] at hr
          rcases List.mem_append.1 hr with hr | hr
          · exact (h2 r hr).more _
          · rw [List.mem_singleton.1 hr]; exact hst
        · rw [runsOf, hs]
          exact List.pairwise_append.2 ⟨h3, by simp, fun a ha b hb => by rw [List.mem_singleton.1 hb]; exact hlast a ha⟩
        · rw [hs] at e; rw [runsOf, hs] at hr; simp only [Option.some.injEq, Prod.mk.injEq] at e; obtain ⟨rfl, rfl⟩ := e
          rcases List.mem_append.1 hr with hr | hr
          · have := (h2 r hr).lt; omega
          · rw [List.mem_singleton.1 hr]; simp only; omega
    · by_cases hl : l0.length = 2200
      · simp only [Sp.step, if_neg hc, if_pos hl, Option.toList_none, List.append_nil] at hs
        refine ⟨fun f l e => ?_, fun r hr => ?_, ?_, fun f l e r hr => ?_⟩
        · rw [hs] at e; cases e
        · rw [runsOf, hs] at hr; exact (h2 r hr).more _
        · rw [runsOf, hs]; exact h3
        · rw [hs] at e; cases e
      · simp only [Sp.step, if_neg hc, if_neg hl, Option.toList_none, List.append_nil] at hs
        refine ⟨fun f l e => ?_, fun r hr => ?_, ?_, fun f l e r hr => ?_⟩
        · rw [hs] at e; simp only [Option.some.injEq, Prod.mk.injEq] at e; obtain ⟨rfl, rfl⟩ := e
          exact ⟨pre, by rw [e0]; simp, e1, by simp only [List.mem_append, List.mem_singleton, not_or]; exact ⟨e2, fun h => hc h.symm⟩, by simp; omega⟩
        · rw [runsOf, hs] at hr; exact (h2 r hr).more _
        · rw [runsOf, hs]; exact h3
        · rw [hs] at e; rw [runsOf, hs] at hr; simp only [Option.some.injEq, Prod.mk.injEq] at e; obtain ⟨rfl, rfl⟩ := e; exact hlast r hr
theorem Inv.all (p : List UInt8) : Inv p := by
  have h : ∀ n, n ≤ p.length → Inv (p.take n) := by
    intro n
    induction n with
    | zero => intro _; simpa using Inv.nil
    | succ n ih => intro hn; rw [List.take_succ_eq_append_getElem hn]; exact (ih (by omega)).snoc _
  simpa using h p.length (Nat.le_refl _)
theorem runs_stand (p : List UInt8) (r : Run) (h : r ∈ runsOf p) : Stands p r := (Inv.all p).runs r h
theorem runs_at_lt (p : List UInt8) (i : Nat) (h : i < (runsOf p).length) : ((runsOf p)[i]'h).1 + ((runsOf p)[i]'h).2.length + 1 < p.length := (runs_stand p _ (List.getElem_mem h)).lt

/-- further on by n bytes -/
def shr (n : Nat) (r : Run) : Run := (r.1 + n, r.2)
def shs (n : Nat) (s : Sp) : Sp := ⟨s.pos + n, s.md.map (shr n)⟩
theorem step_shs (n : Nat) (s : Sp) (c : UInt8) : (shs n s).step c = (shs n (s.step c).1, (s.step c).2.map (shr n)) := by
  obtain ⟨pos, md⟩ := s
  cases md with
  | none =>
    by_cases hc : c = 0
    · simp [Sp.step, shs, shr, hc]; omega
    · simp [Sp.step, shs, shr, hc]; omega
  | some x =>
    obtain ⟨f, l⟩ := x
    by_cases hc : c = 0
    · by_cases hl : l = []
      · simp [Sp.step, shs, shr, hc, hl]; omega
      · simp [Sp.step, shs, shr, hc, hl]; omega
    · by_cases hl : l.length = 2200
      · simp [Sp.step, shs, shr, hc, hl]; omega
      · simp [Sp.step, shs, shr, hc, hl]; omega
theorem feed_shs (n : Nat) (s : Sp) (l : List UInt8) : (shs n s).feed l = (shs n (s.feed l).1, (s.feed l).2.map (shr n)) := by
  induction l generalizing s with
  | nil => rfl
  | cons c l ih =>
    simp only [Sp.feed, step_shs, ih, List.map_append]
    cases (s.step c).2 <;> rfl

/-- behind a zero the machine is as behind a first zero -/
theorem feed_zero (a : List UInt8) : (fresh.feed (a ++ [0])).1 = shs a.length (fresh.feed [0]).1 := by
  rw [feed_snoc]
  have hp := fresh_pos a
  generalize (fresh.feed a).1 = s at *
  obtain ⟨pos, md⟩ := s
  simp only at hp
  subst hp
  cases md with
  | none => simp [Sp.step, Sp.feed, shs, shr, fresh]; omega
  | some x => simp [Sp.step, Sp.feed, shs, shr, fresh]; omega
theorem joins (a b : List UInt8) : runsOf ((a ++ [0]) ++ b) = runsOf (a ++ [0]) ++ (runsOf ([0] ++ b)).map (shr a.length) := by
  rw [runs_append (a ++ [0]) b, feed_zero, feed_shs, runs_append [0] b]
  have : runsOf [0] = [] := by decide
  rw [this]
  rfl
theorem joins_length (a b : List UInt8) : (runsOf ((a ++ [0]) ++ b)).length = (runsOf (a ++ [0])).length + (runsOf ([0] ++ b)).length := by
  rw [joins]; simp
theorem joins_left (a b : List UInt8) (i : Nat) (h : i < (runsOf ((a ++ [0]) ++ b)).length) (h1 : i < (runsOf (a ++ [0])).length) : (runsOf ((a ++ [0]) ++ b))[i]'h = (runsOf (a ++ [0]))[i]'h1 := by
  have e := joins a b
  simp only [e]
  exact List.getElem_append_left h1
theorem joins_right (a b : List UInt8) (i : Nat) (h : i < (runsOf ((a ++ [0]) ++ b)).length) (h1 : (runsOf (a ++ [0])).length ≤ i) (h2 : i - (runsOf (a ++ [0])).length < (runsOf ([0] ++ b)).length) :
    (runsOf ((a ++ [0]) ++ b))[i]'h = shr a.length ((runsOf ([0] ++ b))[i - (runsOf (a ++ [0])).length]'h2) := by
  have e := joins a b
  simp only [e]
  rw [List.getElem_append_right h1, List.getElem_map]
end Go.Proofs.Ytnfefjlplipeiaa
