/-
  The walk of Feed: the splitter's block goes on as the plain machine says, and the runs that it tells are rows of the call's own. Condition: the block stands for the machine; the bytes read as a list.
-/
import Derived.Test.YtnfefjlplipeiaaSplitObj
import Derived.Test.YtnfefjlplipeiaaSplitMath
namespace Go.Proofs.Ytnfefjlplipeiaa
open Go.RowKit
set_option linter.unusedVariables false
set_option linter.unusedSimpArgs false

/-- the splitter's block stands for the machine; hv: the slice of what is held -/
def SpAt (w : World) (g pos : Nat) (md : Option Run) (hv : Value) : Prop :=
  match md with
  | none => hv = .slice none 0 0 ∧ ∃ fence : Int, w.heap[g]? = some (.cells (spCells (aheadOf g) pos fence false hv) 49 (0, 0))
  | some (f, l) => w.heap[g]? = some (.cells (spCells (withinOf g) pos (f : Int) true hv) 49 (0, 0)) ∧ OwnB 5 w 0 hv l ∧ l.length ≤ 2200
def mdFunc (md : Option Run) : Nat := match md with | none => 24 | some _ => 25

def heldLen (md : Option Run) : Nat := match md with | none => 0 | some x => x.2.length
/-- some blocks -/
def Near (g : Nat) (hv : Value) : Nat → Prop := fun k => k = g ∨ hv.ownBlock = some k

theorem SpAt.held {w : World} {g pos : Nat} {md : Option Run} {hv : Value} (h : SpAt w g pos md hv) : ∃ A n c, hv = .slice A n c ∧ n = heldLen md := by
  cases md with
  | none => exact ⟨none, 0, 0, h.1, rfl⟩
  | some x =>
    obtain ⟨f, l⟩ := x
    obtain ⟨A, c, e, _⟩ := h.2.1.form
    exact ⟨A, _, c, e, rfl⟩
theorem SpAt.ne {w : World} {g pos : Nat} {md : Option Run} {hv : Value} (h : SpAt w g pos md hv) : hv.ownBlock ≠ some g := by
  cases md with
  | none => rw [h.1]; simp [Value.ownBlock]
  | some x => exact own_obj_ne h.2.1 h.1 (by decide)
theorem SpAt.lt {w : World} {g pos : Nat} {md : Option Run} {hv : Value} (h : SpAt w g pos md hv) : g < w.heap.size ∧ ∀ k, hv.ownBlock = some k → k < w.heap.size := by
  cases md with
  | none => exact ⟨obj_lt h.2.choose_spec, fun k hk => by rw [h.1] at hk; simp [Value.ownBlock] at hk⟩
  | some x => exact ⟨obj_lt h.1, fun k hk => own_lt h.2.1 k hk⟩
theorem SpAt.keep {F : Nat → Prop} {w w' : World} {g pos : Nat} {md : Option Run} {hv : Value} (h : SpAt w g pos md hv) (ht : Touch F w w') (hg : ¬ F g) (hh : ∀ k, hv.ownBlock = some k → ¬ F k) : SpAt w' g pos md hv := by
  cases md with
  | none => obtain ⟨e, f, hf⟩ := h; exact ⟨e, f, ht.obj hf hg⟩
  | some x => exact ⟨ht.obj h.1 hg, ht.ownB h.2.1 hh, h.2.2⟩
/-- its cells -/
theorem SpAt.obj {w : World} {g pos : Nat} {md : Option Run} {hv : Value} (h : SpAt w g pos md hv) : ∃ nx fence inn, w.heap[g]? = some (.cells (spCells nx pos fence inn hv) 49 (0, 0)) ∧
    nx = .func (.func (mdFunc md)) #[.pointer (some ⟨g, 0, none⟩)] #[] := by
  cases md with
  | none => obtain ⟨e, f, hf⟩ := h; exact ⟨_, _, _, hf, rfl⟩
  | some x => exact ⟨_, _, _, h.1, rfl⟩
/-- a place more -/
theorem SpAt.up {w : World} {g pos : Nat} {md : Option Run} {hv : Value} (h : SpAt w g pos md hv) : SpAt (w.setCell ⟨g, 1, none⟩ (.int .i64 ((pos : Int) + 1))) g (pos + 1) md hv := by
  cases md with
  | none => obtain ⟨e, f, hf⟩ := h; exact ⟨e, f, obj_set hf 1 _⟩
  | some x => exact ⟨obj_set h.1 1 _, ownB_far h.2.1 (p := ⟨g, 1, none⟩) (SpAt.ne h) _, h.2.2⟩

theorem held_any {w : World} {g pos : Nat} {md : Option Run} {hv : Value} (h : SpAt w g pos md hv) : Calls Try.prog 20 #[.pointer (some ⟨g, 0, none⟩)] w fun e w' => e = .returned (.int .i64 (heldLen md : Int)) ∧ w = w' := by
  obtain ⟨nx, fence, inn, hobj, _⟩ := h.obj
  obtain ⟨A, n, c, rfl, hn⟩ := h.held
  rw [← hn]
  exact held_calls g nx pos fence inn A n c w hobj
theorem at_any {w : World} {g pos : Nat} {md : Option Run} {hv : Value} (h : SpAt w g pos md hv) : Calls Try.prog 22 #[.pointer (some ⟨g, 0, none⟩)] w fun e w' => e = .returned (.int .i64 (pos : Int)) ∧ w = w' := by
  obtain ⟨nx, fence, inn, hobj, _⟩ := h.obj
  exact at_calls g nx pos fence inn hv w hobj

/-- what the next byte does -/
def NextPost (w : World) (g : Nat) (s : Sp) (hv : Value) (c : UInt8) (e : Ending) (w' : World) : Prop :=
  ∃ (ra : Int) (A : Option Addr) (n cp : Nat) (b : Bool) (hv' : Value), e = .returned (.tuple #[.agg #[.int .i64 ra, .slice A n cp], .bool b]) ∧ SpAt w' g s.pos (s.step c).1.md hv' ∧
    ((s.step c).2 = none ∧ b = false ∨ ∃ f l, (s.step c).2 = some (f, l) ∧ b = true ∧ ra = (f : Int) ∧ .slice A n cp = hv ∧ OwnB 5 w' 0 hv l ∧ hv' = .slice none 0 0) ∧
    (∀ k, hv'.ownBlock = some k → hv.ownBlock = some k ∨ w.heap.size ≤ k) ∧ Touch (Near g hv) w w'

theorem nil_block (k : Nat) (h : (Value.slice none 0 0).ownBlock = some k) : False := by simp [Value.ownBlock] at h

theorem next_any (w : World) (g : Nat) (s : Sp) (hv : Value) (c : UInt8) (h : SpAt w g s.pos s.md hv) :
    Calls Try.prog (mdFunc s.md) #[.pointer (some ⟨g, 0, none⟩), .int .u8 ((c.toNat : Nat) : Int)] w (NextPost w g s hv c) := by
  obtain ⟨pos, md⟩ := s
  by_cases hc : c = 0
  · subst hc
    cases md with
    | none =>
      obtain ⟨rfl, f, hf⟩ := h
      refine (ahead_zero g _ _ _ _ _ w hf).mono ?_
      rintro e w' ⟨rfl, h1, h2⟩
      exact ⟨0, none, 0, 0, false, .slice none 0 0, rfl, ⟨h1, OwnB.nil _ _ _, Nat.zero_le _⟩, .inl ⟨rfl, rfl⟩, fun k hk => (nil_block k hk).elim, h2.mono fun _ _ e => .inl e⟩
    | some x =>
      obtain ⟨f, l⟩ := x
      obtain ⟨A, n, cp, rfl, hn⟩ := SpAt.held h
      have hn : n = l.length := hn
      obtain ⟨hf, ho, hl⟩ := h
      refine (within_zero g _ _ _ _ A n cp w hf).mono ?_
      rintro e w' ⟨rfl, h1, h2⟩
      have ho' := h2.ownB ho fun k hk e => own_obj_ne ho hf (by decide) (by rw [hk]; exact congrArg some e)
      refine ⟨f, A, n, cp, decide (0 < n), .slice none 0 0, rfl, ⟨h1, OwnB.nil _ _ _, Nat.zero_le _⟩, ?_, fun k hk => (nil_block k hk).elim, h2.mono fun _ _ e => .inl e⟩
      by_cases h0 : l = []
      · exact .inl ⟨by simp [Sp.step, h0], by rw [hn, h0]; rfl⟩
      · exact .inr ⟨f, l, by simp [Sp.step, h0], by rw [decide_eq_true_eq, hn]; exact List.length_pos_iff.2 h0, rfl, rfl, ho', rfl⟩
  · have hc' : c.toNat ≠ 0 := fun e => hc (UInt8.toNat_inj.1 (by simpa using e))
    cases md with
    | none =>
      obtain ⟨rfl, f, hf⟩ := h
      refine (ahead_calls g c.toNat w hc').mono ?_
      rintro e w' ⟨rfl, h2⟩
      have ht : Touch (Near g (.slice none 0 0)) w w' := Touch.of_below h2 fun k hk hb => by omega
      refine ⟨0, none, 0, 0, false, .slice none 0 0, rfl, ?_, .inl ⟨by simp [Sp.step, hc], rfl⟩, fun k hk => (nil_block k hk).elim, ht⟩
      have : (Sp.step ⟨pos, none⟩ c).1.md = none := by simp [Sp.step, hc]
      rw [this]
      exact ⟨rfl, f, by rw [h2.block g (obj_lt hf)]; exact hf⟩
    | some x =>
      obtain ⟨f, l⟩ := x
      by_cases hl2 : l.length = 2200
      · obtain ⟨A, n, cp, rfl, hn⟩ := SpAt.held h
        have hn : n = l.length := hn
        obtain ⟨hf, ho, hl⟩ := h
        rw [hl2] at hn
        subst hn
        refine (within_full g _ _ _ _ A cp c w hf hc').mono ?_
        rintro e w' ⟨rfl, h1, h2⟩
        refine ⟨0, none, 0, 0, false, .slice none 0 0, rfl, ?_, .inl ⟨by simp [Sp.step, hc, hl2], rfl⟩, fun k hk => (nil_block k hk).elim, h2.mono fun _ _ e => .inl e⟩
        have : (Sp.step ⟨pos, some (f, l)⟩ c).1.md = none := by simp [Sp.step, hc, hl2]
        rw [this]
        exact ⟨rfl, _, h1⟩
      · obtain ⟨hf, ho, hl⟩ := h
        refine (within_more g _ _ _ _ hv l c w hf ho hc' (by omega)).mono ?_
        rintro e w' ⟨rfl, hv', h1, h2, h3, h4⟩
        refine ⟨0, none, 0, 0, false, hv', rfl, ?_, .inl ⟨by simp [Sp.step, hc, hl2], rfl⟩, h3, h4⟩
        have : (Sp.step ⟨pos, some (f, l)⟩ c).1.md = some (f, l ++ [c]) := by simp [Sp.step, hc, hl2]
        rw [this]
        exact ⟨h1, h2, by simp; omega⟩

/-- a slice of runs, its blocks in F -/
def OwnRuns (w : World) (F : Nat → Prop) (v : Value) (rs : List Run) : Prop :=
  ∃ cells : List Value, w.ownsRow 0 42 2 v rs.length cells ∧ (∀ k, v.ownBlock = some k → F k) ∧
    ∀ i (hi : i < rs.length), ∃ bv, cells[2 * i]? = some (.int .i64 ((rs[i]'hi).1 : Int)) ∧ cells[2 * i + 1]? = some bv ∧ OwnB 5 w 0 bv (rs[i]'hi).2 ∧ ∀ k, bv.ownBlock = some k → F k
theorem OwnRuns.nil (w : World) (F : Nat → Prop) : OwnRuns w F (.slice none 0 0) [] := ⟨[], World.ownsRow_nil _ _ _ _, fun k hk => (nil_block k hk).elim, fun i hi => absurd hi (by simp)⟩
theorem OwnRuns.keep {F G : Nat → Prop} {w w' : World} {v : Value} {rs : List Run} (h : OwnRuns w F v rs) (ht : Touch G w w') (hd : ∀ k, F k → ¬ G k) : OwnRuns w' F v rs := by
  obtain ⟨cells, h1, h2, h3⟩ := h
  refine ⟨cells, ht.own h1 fun k hk => hd k (h2 k hk), h2, fun i hi => ?_⟩
  obtain ⟨bv, a, b, c, d⟩ := h3 i hi
  exact ⟨bv, a, b, ht.ownB c fun k hk => hd k (d k hk), d⟩
theorem OwnRuns.mono {F G : Nat → Prop} {w : World} {v : Value} {rs : List Run} (h : OwnRuns w F v rs) (hd : ∀ k, F k → G k) : OwnRuns w G v rs := by
  obtain ⟨cells, h1, h2, h3⟩ := h
  refine ⟨cells, h1, fun k hk => hd k (h2 k hk), fun i hi => ?_⟩
  obtain ⟨bv, a, b, c, d⟩ := h3 i hi
  exact ⟨bv, a, b, c, fun k hk => hd k (d k hk)⟩

/-- a run more -/
theorem OwnRuns.snoc {F G : Nat → Prop} {w w2 : World} {v v2 bv : Value} {rs : List Run} {cells : List Value} {f : Nat} {b : List UInt8}
    (hrow : w.ownsRow 0 42 2 v rs.length cells) (hel : ∀ i (hi : i < rs.length), ∃ bv, cells[2 * i]? = some (.int .i64 ((rs[i]'hi).1 : Int)) ∧ cells[2 * i + 1]? = some bv ∧ OwnB 5 w 0 bv (rs[i]'hi).2 ∧ ∀ k, bv.ownBlock = some k → F k)
    (hrow2 : w2.ownsRow 0 42 2 v2 (rs.length + 1) (cells ++ [.int .i64 (f : Int), bv])) (ht : Touch (fun j => v.ownBlock = some j) w w2) (hb : OwnB 5 w2 0 bv b)
    (hF : ∀ j, F j → G j) (hv2 : ∀ j, v2.ownBlock = some j → G j) (hbv : ∀ j, bv.ownBlock = some j → G j) : OwnRuns w2 G v2 (rs ++ [(f, b)]) := by
  have hlc : cells.length = 2 * rs.length := by have := hrow.1; omega
  refine ⟨cells ++ [.int .i64 (f : Int), bv], by rw [List.length_append]; simpa using hrow2, hv2, fun i hi => ?_⟩
  by_cases h : i < rs.length
  · obtain ⟨bv1, h1, h2, h3, h4⟩ := hel i h
    refine ⟨bv1, ?_, ?_, ?_, fun j hj => hF j (h4 j hj)⟩
    · rw [List.getElem?_append_left (by rw [hlc]; omega), h1, List.getElem_append_left h]
    · rw [List.getElem?_append_left (by rw [hlc]; omega), h2]
    · rw [List.getElem_append_left h]
      exact ht.ownB h3 (fun j hj e => own_type_ne h3 hrow (by decide) j hj e)
  · have e : i = rs.length := by simp at hi; omega
    subst e
    refine ⟨bv, ?_, ?_, ?_, hbv⟩
    · rw [List.getElem?_append_right (by rw [hlc]; omega), hlc]; simp
    · rw [List.getElem?_append_right (by rw [hlc]; omega), hlc]; simp
    · simp only [List.getElem_concat_length]
      exact hb

/-- behind so many bytes -/
def FeedRel (w : World) (g : Nat) (s : Sp) (hv : Value) (l : List UInt8) (out i : Value) (wr : World) : Prop :=
  ∃ (k : Nat) (hv' : Value) (F : Nat → Prop), k ≤ l.length ∧ i = .int .i64 (k : Int) ∧ SpAt wr g (s.pos + k) (s.feed (l.take k)).1.md hv' ∧ OwnRuns wr F out (s.feed (l.take k)).2 ∧
    (∀ j, F j → (hv.ownBlock = some j ∨ w.heap.size ≤ j) ∧ j < wr.heap.size ∧ j ≠ g ∧ hv'.ownBlock ≠ some j) ∧ (∀ j, hv'.ownBlock = some j → hv.ownBlock = some j ∨ w.heap.size ≤ j) ∧ Touch (Near g hv) w wr
def FeedPost (w : World) (g : Nat) (s : Sp) (hv : Value) (l : List UInt8) (e : Ending) (wr : World) : Prop :=
  ∃ (out hv' : Value) (F : Nat → Prop), e = .returned out ∧ SpAt wr g (s.pos + l.length) (s.feed l).1.md hv' ∧ OwnRuns wr F out (s.feed l).2 ∧
    (∀ j, F j → (hv.ownBlock = some j ∨ w.heap.size ≤ j) ∧ j < wr.heap.size ∧ j ≠ g ∧ hv'.ownBlock ≠ some j) ∧ (∀ j, hv'.ownBlock = some j → hv.ownBlock = some j ∨ w.heap.size ≤ j) ∧ Touch (Near g hv) w wr

theorem info_run : (Try.prog.info? 42).map (fun i => (i.zero, i.size, i.bytes)) = some (some (.agg #[.int .i64 0, .slice none 0 0]), 2, 32) := by kernel_rfl

theorem callFunc_sp (md : Option Run) (args : Array Value) (w : World) : (callFunc (mdFunc md) args).run Try.prog w = .ok (.enter (mdFunc md) args) w := by
  cases md
  · exact run_callFunc_body Try.func24 (by kernel_rfl) (by kernel_rfl) args w
  · exact run_callFunc_body Try.func25 (by kernel_rfl) (by kernel_rfl) args w

set_option maxHeartbeats 1000000 in
theorem feed_calls (w : World) (g : Nat) (s : Sp) (hv : Value) (A : Option Addr) (cap : Nat) (l : List UInt8) (hs : SpAt w g s.pos s.md hv) (hr : Reads w A l) (ha : ∀ a, A = some a → l ≠ [] → ¬ Near g hv a.block) (hl : s.pos + l.length ≤ 1099511627776) :
    Calls Try.prog 19 #[.pointer (some ⟨g, 0, none⟩), .slice A l.length cap] w (FeedPost w g s hv l) := by
  have HS := Lib.hid hs
  have HR := Lib.hid hr
  have HA := Lib.hid ha
  clear hs hr ha
  go_enter Try.func19, Try.ntmps19
  go_wp2
  go_loopw [5, 12] (fun out i wr => FeedRel w g s hv l out i wr) (fun _ i _ => l.length - (intOf i).toNat)
  case atStart =>
    exact ⟨0, hv, fun _ => False, Nat.zero_le _, rfl, HS.out, OwnRuns.nil _ _, fun j h => h.elim, fun j h => .inl h, Touch.refl _ _⟩
  case round =>
    obtain ⟨k, hv1, F, hk, rfl, hsp, hrs, hF, hhv, ht⟩ := hrel
    by_cases hlt : k < l.length
    · obtain ⟨ad, rfl, hc⟩ := (ht.reads HR.out HA.out).out k hlt
      obtain ⟨nx, fence, inn, hobj, hnx⟩ := hsp.obj
      obtain ⟨c0, c1, c2, c3, c4, f⟩ := sp_cells hobj
      rw [hnx] at c0
      have HC := Lib.hid hsp
      have HRS := Lib.hid hrs
      have HF := Lib.hid hF
      have HH := Lib.hid hhv
      have HT := Lib.hid ht
      clear hsp hrs hF hhv ht hobj hnx f c2 c3 c4
      have hcf := callFunc_sp (s.feed (l.take k)).1.md
      have hn := next_any wr g ⟨s.pos + k, (s.feed (l.take k)).1.md⟩ hv1 (l[k]'hlt) HC.out
      have HN := Lib.hid hn
      clear hn
      go_wp2_with fail
      refine HN.out.mono ?_
      rintro e w1 ⟨ra, A1, n1, cp1, b, hv2, rfl, hsp2, hem, hh2, ht2⟩
      clear hcf
      have heta := feed_eta_take s l k hk
      have hsp3 : SpAt w1 g (s.pos + k) ((s.feed (l.take k)).1.step (l[k]'hlt)).1.md hv2 := by rw [← heta]; exact hsp2
      clear hsp2
      rw [heta] at hem
      have hsp2 := hsp3
      clear hsp3
      have hft := feed_take_s s l k hlt
      obtain ⟨nx2, fence2, inn2, hobj2, _⟩ := hsp2.obj
      have hgl := obj_lt hobj2
      obtain ⟨d0, d1, d2, d3, d4, df⟩ := sp_cells hobj2
      have hs1 := ht2.size
      have hcnt := feed_count s (l.take k)
      have hcl : (l.take k).length ≤ k := List.length_take_le _ _
      have hT1 : Touch (Near g hv) w w1 := HT.out.trans ht2 (fun i hi hn => by
        rcases hn with rfl | hn
        · exact .inl rfl
        · rcases HH.out i hn with h | h
          · exact .inr h
          · omega)
      have hh3 : ∀ j, hv2.ownBlock = some j → hv.ownBlock = some j ∨ w.heap.size ≤ j := by
        intro j hj
        rcases hh2 j hj with h | h
        · exact HH.out j h
        · exact .inr (Nat.le_trans HT.out.size h)
      have hFN : ∀ j, F j → ¬ Near g hv1 j := fun j hj hn => by
        obtain ⟨_, _, h3, h4⟩ := HF.out j hj
        rcases hn with h | h
        · exact h3 h
        · exact h4 h
      have hF1 : ∀ j, F j → (hv.ownBlock = some j ∨ w.heap.size ≤ j) ∧ j < w1.heap.size ∧ j ≠ g ∧ hv2.ownBlock ≠ some j := by
        intro j hj
        obtain ⟨h1, h2, h3, h4⟩ := HF.out j hj
        refine ⟨h1, by omega, h3, fun e => ?_⟩
        rcases hh2 j e with h | h
        · exact h4 h
        · omega
      have hrs1 := HRS.out.keep ht2 hFN
      rcases hem with ⟨hst, rfl⟩ | ⟨f0, l0, hst, rfl, rfl, hv1e, hown, rfl⟩
      · have HS2 := Lib.hid hsp2
        have HT1 := Lib.hid hT1
        have HH3 := Lib.hid hh3
        have HF1 := Lib.hid hF1
        have HR1 := Lib.hid hrs1
        have HFT := Lib.hid hft
        have HST := Lib.hid hst
        clear hsp2 hT1 hh3 hF1 hrs1 hft hst heta hFN ht2 hh2 c0 c1 d0 d2 d3 d4 hobj2 hc HN
        go_wp2
        refine ⟨⟨k + 1, hv2, F, by omega, by go_num, ?_, ?_, ?_, HH3.out, ?_⟩, by simp [intOf]; omega⟩
        · rw [HFT.out]
          have := HS2.out.up.keep ((Touch.refl (fun _ => False) _).alloc (.cells #[.int .i64 ra, .slice A1 n1 cp1] 42)) (fun h => h) (fun _ _ h => h)
          simpa [Nat.add_assoc] using this
        · rw [HFT.out, HST.out]
          simp only [Option.toList_none, List.append_nil]
          exact (HR1.out.keep ((Touch.refl (At g) w1).set 1 _) (fun j hj e => (HF1.out j hj).2.2.1 e)).keep ((Touch.refl (fun _ => False) _).alloc _) (fun _ _ h => h)
        · intro j hj
          obtain ⟨a, b, c, d⟩ := HF1.out j hj
          exact ⟨a, by simp; omega, c, d⟩
        · exact (HT1.out.setCell _ _ fun _ => .inl rfl).alloc _
      · subst hv1e
        have hg2 : ∀ k, (Value.slice A1 n1 cp1).ownBlock = some k → k ≠ g := fun k hk e => own_obj_ne hown hobj2 (by decide) (by rw [hk, e])
        obtain ⟨cells, hrow, hrF, hrel⟩ := hrs1
        have hug := own_obj_ne hrow hobj2 (by decide)
        have HS2 := Lib.hid hsp2
        have HT1 := Lib.hid hT1
        have HF1 := Lib.hid hF1
        have HROW := Lib.hid hrow
        have HRF := Lib.hid hrF
        have HEL := Lib.hid hrel
        have HFT := Lib.hid hft
        have HST := Lib.hid hst
        have HOW := Lib.hid hown
        have HG2 := Lib.hid hg2
        have HUG := Lib.hid hug
        have HOB := Lib.hid hobj2
        clear hsp2 hT1 hh3 hF1 hrow hrF hrel hft hst heta hFN ht2 hh2 c0 c1 d0 d1 d2 d3 d4 df hobj2 hc HN hown hg2 hug
        go_wp2_with (at_builtin; refine wpList_append_row (w0 := w1) 0 rfl _ _ 30 42 (.agg #[.int .i64 0, .slice none 0 0]) 2 32 rfl Try.underlying30 info_run rfl (by decide) _ (s.feed (l.take k)).2.length cells rfl ?b0 _ 1 1 [.int .i64 (f0 : Int), .slice A1 n1 cp1] rfl rfl ?b1 ?b2 ?b3 ?b4 ?b5 ?b6 ?_)
        case b0 => exact (HROW.out.alloc _).alloc _
        case b1 => exact RowAt.new_at _ 42 (0, 0) #[.int .i64 (f0 : Int), .slice A1 n1 cp1] _ rfl _ (by simp)
        case b2 => intro u hu; simp at hu; rcases hu with rfl | rfl <;> rfl
        case b3 => simp only [maxLen]; omega
        case b4 => omega
        case b5 => exact Nat.zero_le _
        case b6 => exact ⟨rfl, rfl, rfl, by simp; omega, fun k hk => absurd hk (by omega)⟩
        intro v2 w2 hrow2 _ hgr hat
        have T2 : Touch (fun j => u5.ownBlock = some j) w1 w2 := (((Touch.refl _ w1).alloc _).alloc _).grown hgr (fun i h _ => h)
        have hob2 := T2.obj HOB.out HUG.out
        have hgl2 := obj_lt hob2
        obtain ⟨d0, d1, d2, d3, d4, df⟩ := sp_cells hob2
        have hs2 := T2.size
        have hsp4 : SpAt w2 g (s.pos + k) ((s.feed (l.take k)).1.step (l[k]'hlt)).1.md (.slice none 0 0) := HS2.out.keep T2 HUG.out (fun j h => (nil_block j h).elim)
        have hel2 : ∀ i (hi : i < (s.feed (l.take k)).2.length), ∃ bv, cells[2 * i]? = some (.int .i64 (((s.feed (l.take k)).2[i]'hi).1 : Int)) ∧ cells[2 * i + 1]? = some bv ∧ OwnB 5 w2 0 bv ((s.feed (l.take k)).2[i]'hi).2 ∧ ∀ k, bv.ownBlock = some k → F k := by
          intro i hi
          obtain ⟨bv, h1, h2, h3, h4⟩ := HEL.out i hi
          exact ⟨bv, h1, h2, T2.ownB h3 (fun j hj e => own_type_ne h3 HROW.out (by decide) j hj e), h4⟩
        have how2 : OwnB 5 w2 0 (.slice A1 n1 cp1) l0 := T2.ownB HOW.out (fun j hj e => own_type_ne HOW.out HROW.out (by decide) j hj e)
        have hv2g := own_obj_ne hrow2 hob2 (by decide)
        have hv2at : ∀ j, v2.ownBlock = some j → F j ∨ w1.heap.size ≤ j := by
          intro j hj
          rcases hat with h | h
          · exact .inl (HRF.out j (by rw [← h]; exact hj))
          · rw [h] at hj; injection hj with hj; exact .inr (by omega)
        have hlc : cells.length = 2 * (s.feed (l.take k)).2.length := by have := HROW.out.1; omega
        have HB2 := Lib.hid hob2
        have HS4 := Lib.hid hsp4
        have HE2 := Lib.hid hel2
        have HW2 := Lib.hid how2
        have HR2 := Lib.hid hrow2
        have HVG := Lib.hid hv2g
        have HVA := Lib.hid hv2at
        have HT2 := Lib.hid T2
        have HLC := Lib.hid hlc
        clear hob2 hsp4 hel2 how2 hrow2 hv2g hv2at T2 hgr hat d0 d2 d3 d4 hlc
        go_wp2
        have hrow3 : (w2.setCell ⟨g, 1, none⟩ (.int .i64 ((s.pos : Int) + k + 1))).ownsRow 0 42 2 v2 ((s.feed (l.take k)).2.length + 1) (cells ++ [.int .i64 (f0 : Int), .slice A1 n1 cp1]) := own_far HR2.out (p := ⟨g, 1, none⟩) HVG.out _
        have hdup : (s.feed (l.take (k + 1))).2 = (s.feed (l.take k)).2 ++ [(f0, l0)] := by rw [HFT.out, HST.out]; rfl
        refine ⟨⟨k + 1, .slice none 0 0, fun j => F j ∨ (Value.slice A1 n1 cp1).ownBlock = some j ∨ v2.ownBlock = some j, by omega, by go_num, ?_, ?_, ?_, fun j h => (nil_block j h).elim, ?_⟩, by simp [intOf]; omega⟩
        · rw [HFT.out]
          have := HS4.out.up
          simpa [Nat.add_assoc] using this
        · rw [hdup]
          refine ⟨cells ++ [.int .i64 (f0 : Int), .slice A1 n1 cp1], by rw [List.length_append]; simpa using hrow3, fun j hj => .inr (.inr hj), fun i hi => ?_⟩
          by_cases h : i < (s.feed (l.take k)).2.length
          · obtain ⟨bv, h1, h2, h3, h4⟩ := HE2.out i h
            refine ⟨bv, ?_, ?_, ?_, fun j hj => .inl (h4 j hj)⟩
            · rw [List.getElem?_append_left (by rw [HLC.out]; omega), h1, List.getElem_append_left h]
            · rw [List.getElem?_append_left (by rw [HLC.out]; omega), h2]
            · rw [List.getElem_append_left h]
              exact ownB_far h3 (p := ⟨g, 1, none⟩) (own_obj_ne h3 HB2.out (by decide)) _
          · have e : i = (s.feed (l.take k)).2.length := by simp at hi; omega
            subst e
            refine ⟨.slice A1 n1 cp1, ?_, ?_, ?_, fun j hj => .inr (.inl hj)⟩
            · rw [List.getElem?_append_right (by rw [HLC.out]; omega), HLC.out]; simp
            · rw [List.getElem?_append_right (by rw [HLC.out]; omega), HLC.out]; simp
            · simp only [List.getElem_concat_length]
              exact ownB_far HW2.out (p := ⟨g, 1, none⟩) (own_obj_ne HW2.out HB2.out (by decide)) _
        · intro j hj
          refine ⟨?_, ?_, ?_, by simp [Value.ownBlock]⟩
          · rcases hj with h | h | h
            · exact (HF1.out j h).1
            · exact HH.out j h
            · rcases HVA.out j h with h | h
              · exact (HF1.out j h).1
              · exact .inr (Nat.le_trans HT1.out.size h)
          · show j < (w2.setCell _ _).heap.size
            rw [show (w2.setCell ⟨g, 1, none⟩ (.int .i64 ((s.pos : Int) + k + 1))).heap.size = w2.heap.size by simp [World.setCell]]
            rcases hj with h | h | h
            · have := (HF1.out j h).2.1; omega
            · exact own_lt HW2.out j h
            · exact own_lt HR2.out j h
          · rcases hj with h | h | h
            · exact (HF1.out j h).2.2.1
            · exact HG2.out j h
            · intro e; subst e; exact HVG.out h
        · exact (HT1.out.trans HT2.out (fun i hi e => by
            have := (HF1.out i (HRF.out i e)).1
            rcases this with h | h
            · exact .inr h
            · omega)).setCell _ _ fun _ => .inl rfl
    · have hke : k = l.length := by omega
      subst hke
      rw [List.take_length] at hsp hrs
      have HP := Lib.hid (show ∃ (hv' : Value) (F : Nat → Prop), SpAt wr g (s.pos + l.length) (s.feed l).1.md hv' ∧ OwnRuns wr F _ (s.feed l).2 ∧ (∀ j, F j → (hv.ownBlock = some j ∨ w.heap.size ≤ j) ∧ j < wr.heap.size ∧ j ≠ g ∧ hv'.ownBlock ≠ some j) ∧ (∀ j, hv'.ownBlock = some j → hv.ownBlock = some j ∨ w.heap.size ≤ j) ∧ Touch (Near g hv) w wr from ⟨hv1, F, hsp, hrs, hF, hhv, ht⟩)
      clear hsp hrs hF hhv ht
      go_wp2
      go_ret
      obtain ⟨hv', F', h1, h2, h3, h4, h5⟩ := HP.out
      exact ⟨_, hv', F', rfl, h1, h2, h3, h4, h5⟩
end Go.Proofs.Ytnfefjlplipeiaa
