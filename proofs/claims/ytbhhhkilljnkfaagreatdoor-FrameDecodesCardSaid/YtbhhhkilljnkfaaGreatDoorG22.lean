/-
  The walk of the law's exact: two values of one tree are alike to the bit. Condition: both stand for the tree. The walk of the law's floats: frames of one schema have floats alike to the bit. Condition: both schemas read. The walk of FrameDecodes. Condition: the run reads; the tables are as laid.
-/
import Derived.Test.YtbhhhkilljnkfaaGreatDoorG12
import Derived.Test.YtbhhhkilljnkfaaGreatDoorG3
import Derived.Test.YtbhhhkilljnkfaaGreatDoorG8
import Derived.Test.YtbhhhkilljnkfaaGreatDoorG16
import Derived.Test.YtbhhhkilljnkfaaGreatDoorG9
import Derived.Test.YtbhhhkilljnkfaaGreatDoorG11
import Derived.Test.YtbhhhkilljnkfaaGreatDoorG21
/- The walk of the law's exact: two values of one tree are alike to the bit. Condition: both stand for the tree. -/
namespace Go.Proofs.YtbhhhkilljnkfaaGreatDoor
open Go.RowKit Go.BigFrame
set_option linter.unusedVariables false
set_option linter.unusedSimpArgs false
attribute [local go_sem] run_store_float

theorem run_bits_call (x : Nat) (w : World) : (callFunc 58 #[.float .f64 x]).run Tryz.prog w = .ok (.value (.int .u64 (x : Int))) w := by
  rw [run_callFunc_extern Tryz.func58 (by kernel_rfl) (by kernel_rfl) (by kernel_rfl) (e := Extern.MathFloatBits.float64bits) (by kernel_rfl), run_bits]
  rfl
attribute [local go_sem] run_bits_call

def ExactV (n : Nat) : Prop := ∀ (t : Va) (va vb : Value) (w : World), SizeOf.sizeOf t < n → VaAt w va t → VaAt w vb t → Calls Tryz.prog 33 #[va, vb] w fun e w' => e = .returned (.bool true) ∧ Keeps w w'

set_option maxRecDepth 20000 in
set_option maxHeartbeats 1000000 in
theorem exact_calls (n : Nat) : ExactV n := by
  induction n with
  | zero => intro t va vb w hn; exact absurd hn (by omega)
  | succ n ih =>
    intro v va vb w hn ha hb
    obtain ⟨A, c, rfl⟩ := ha.form
    obtain ⟨B, d, rfl⟩ := hb.form
    have hla := ha.bound
    obtain ⟨W, hW⟩ : ∃ W, W = (w.alloc (.cells #[.int .i64 v.kind, .int .i64 v.int, .float .f64 v.fl, .string v.text, .slice A v.items.length c] 71)).alloc (.cells #[.int .i64 v.kind, .int .i64 v.int, .float .f64 v.fl, .string v.text, .slice B v.items.length d] 71) := ⟨_, rfl⟩
    have hk2 : Keeps w W := by rw [hW]; exact ((Keeps.refl w).alloc _).alloc _
    have hb0 : W.heap[w.heap.size]? = some (.cells #[.int .i64 v.kind, .int .i64 v.int, .float .f64 v.fl, .string v.text, .slice A v.items.length c] 71) := by rw [hW]; exact obj_old (obj_new w _) _
    have hb1 : W.heap[w.heap.size + 1]? = some (.cells #[.int .i64 v.kind, .int .i64 v.int, .float .f64 v.fl, .string v.text, .slice B v.items.length d] 71) := by rw [hW]; exact obj_new_at _ _ _ (by simp)
    obtain ⟨na, hna⟩ : ∃ na, na = v.items.length := ⟨_, rfl⟩
    rw [← hna] at hb0 hb1 hW hla ⊢
    generalize v.kind = k at *
    generalize v.int = i at *
    generalize v.fl = f at *
    generalize v.text = t at *
    obtain ⟨x0, x1, x2, x3, x4, _⟩ := cells5 hb0
    obtain ⟨y0, y1, y2, y3, y4, _⟩ := cells5 hb1
    have u1 := obj_lt hb1
    have HB0 := Lib.hid hb0
    have HB1 := Lib.hid hb1
    have HA := Lib.hid ha
    have HB := Lib.hid hb
    have HN := Lib.hid hn
    have HK := Lib.hid hk2
    have HNA := Lib.hid hna
    have IH := Lib.hid ih
    clear ha hb hn hk2 ih hna hb0 hb1
    go_enter Tryz.func33, Tryz.ntmps33
    go_wp2_with fail
    rw [← hW]
    go_quiet (fail)
    have hkq : Keeps W (W.drewN nq) := Keeps.drewN _ _
    have HKQ := Lib.hid hkq
    clear hW x0 x1 x2 x3 x4 y0 y1 y2 y3 y4 u1
    obtain ⟨W1, hW1⟩ : ∃ W1, W1 = W.drewN nq := ⟨_, rfl⟩
    rw [← hW1] at hkq ⊢
    clear hW1 HKQ
    go_wp2_with fail
    go_loopw [5] (fun i wr => ∃ k : Nat, k ≤ na ∧ i = .int .i64 (k : Int) ∧ Keeps W wr) (fun i _ => na - (intOf i).toNat)
    case atStart => exact ⟨0, Nat.zero_le _, rfl, hkq⟩
    case round =>
      obtain ⟨j, hj, rfl, hkw⟩ := hrel
      clear hkq
      have hb0 := (hkw.below.block _ (obj_lt HB0.out)).trans HB0.out
      have hb1 := (hkw.below.block _ (obj_lt HB1.out)).trans HB1.out
      obtain ⟨x0, x1, x2, x3, x4, _⟩ := cells5 hb0
      obtain ⟨y0, y1, y2, y3, y4, _⟩ := cells5 hb1
      have u1 := obj_lt hb1
      have hkk := HK.out.trans hkw
      clear hb0 hb1
      by_cases hlt : j < na
      · have hlt1 : j < v.items.length := by rw [← HNA.out]; exact hlt
        obtain ⟨a1, k1, i1, f1, t1, s1, rfl, p1, p2, p3, p4, p5, hta⟩ := (HA.out.later hkk.below).elem j hlt1
        obtain ⟨b1, k2, i2, f2, t2, s2, rfl, q1, q2, q3, q4, q5, htb⟩ := (HB.out.later hkk.below).elem j hlt1
        obtain ⟨A1, c1, n1, rfl⟩ : ∃ A1 c1 n1, s1 = Value.slice A1 n1 c1 := by
          obtain ⟨A1, c1, e1⟩ := hta.form
          simp only [Value.agg.injEq, Array.mk.injEq, List.cons.injEq] at e1
          exact ⟨_, _, _, e1.2.2.2.2.1⟩
        obtain ⟨B1, d1, n2, rfl⟩ : ∃ A1 c1 n1, s2 = Value.slice A1 n1 c1 := by
          obtain ⟨A1, c1, e1⟩ := htb.form
          simp only [Value.agg.injEq, Array.mk.injEq, List.cons.injEq] at e1
          exact ⟨_, _, _, e1.2.2.2.2.1⟩
        rw [Nat.mul_comm 5 j] at p1 p2 p3 p4 p5 q1 q2 q3 q4 q5
        rw [← addr_add_add, addr_add_pos _ _ (by omega)] at p2 p3 p4 p5 q2 q3 q4 q5
        have hsz := Va.elem_lt v j hlt1
        generalize v.items[j]'hlt1 = ta at hta htb hsz
        have hc := (IH.out ta _ _ wr.drew (by have := HN.out; omega) (hta.later (Keeps.drew wr).below) (htb.later (Keeps.drew wr).below)).mono fun e w' h => (⟨h.1, (Keeps.drew wr).trans h.2⟩ : _ ∧ Keeps wr w')
        have HC := Lib.hid hc
        have HKW := Lib.hid hkw
        clear hta htb hkw hsz hlt1 hc hkk IH HA HB
        go_wp2_with fail
        go_region_law (go_simp; go_at_call 33; refine HC.out.mono ?_; rintro e w2 ⟨rfl, hk2⟩)
        all_goals
          have HK3 := Lib.hid (HKW.out.trans hk2)
          clear hk2
          go_wp2
          exact ⟨⟨j + 1, by omega, by go_num, HK3.out⟩, by simp [intOf]; omega⟩
      · go_wp2_with fail
        go_ret
        exact ⟨rfl, hkk⟩
end Go.Proofs.YtbhhhkilljnkfaaGreatDoor
/- The walk of the law's floats: frames of one schema have floats alike to the bit. Condition: both schemas read. -/
namespace Go.Proofs.YtbhhhkilljnkfaaGreatDoor
open Go.RowKit Go.BigFrame
set_option linter.unusedVariables false
set_option linter.unusedSimpArgs false
attribute [local go_sem] run_store_float

set_option maxRecDepth 20000 in
set_option maxHeartbeats 2000000 in
theorem floats_calls (A B E A' B' E' : Option Addr) (c d k c' d' k' : Nat) (S T : Nat → Prop) (a b : Fr) (w : World) (ha : SchS w S A a.cols) (hb : SchS w T A' b.cols) (hab : a.cols = b.cols) :
    Calls Tryz.prog 13 #[.agg (frCells A c B d E k a), .agg (frCells A' c' B' d' E' k' b)] w fun e w' => e = .returned (.bool true) ∧ Keeps w w' := by
  rw [← hab] at hb
  unfold frCells
  rw [← hab]
  generalize a.cols = l at *
  have hll := ha.len
  clear hab
  generalize a.kind = a0 at *
  generalize a.number = a1 at *
  generalize a.seq = a3 at *
  generalize a.first = a4 at *
  generalize a.rows = a5 at *
  generalize a.block.length = a6 at *
  generalize a.spot = a7 at *
  generalize a.frames = a8 at *
  generalize a.irows = a9 at *
  generalize a.ents.length = a10 at *
  generalize b.kind = b0 at *
  generalize b.number = b1 at *
  generalize b.seq = b3 at *
  generalize b.first = b4 at *
  generalize b.rows = b5 at *
  generalize b.block.length = b6 at *
  generalize b.spot = b7 at *
  generalize b.frames = b8 at *
  generalize b.irows = b9 at *
  generalize b.ents.length = b10 at *
  have HS := Lib.hid ha
  have HT := Lib.hid hb
  clear ha hb
  generalize hN : l.length = N at hll ⊢
  have HN := Lib.hid hN
  clear hN
  obtain ⟨C0, hC0⟩ : ∃ C0 : Array Value, C0 = #[.int .i64 a0, .int .i64 a1, .slice A N c, .int .i64 a3, .int .i64 a4, .int .i64 a5, .slice B a6 d, .int .i64 a7, .int .i64 a8, .int .i64 a9, .slice E a10 k] := ⟨_, rfl⟩
  obtain ⟨C1, hC1⟩ : ∃ C1 : Array Value, C1 = #[.int .i64 b0, .int .i64 b1, .slice A' N c', .int .i64 b3, .int .i64 b4, .int .i64 b5, .slice B' b6 d', .int .i64 b7, .int .i64 b8, .int .i64 b9, .slice E' b10 k'] := ⟨_, rfl⟩
  obtain ⟨W, hW⟩ : ∃ W, W = (w.alloc (.cells C0 30)).alloc (.cells C1 30) := ⟨_, rfl⟩
  have hk0 : Keeps w W := by rw [hW]; exact ((Keeps.refl w).alloc _).alloc _
  have hb1 : W.heap[w.heap.size + 1]? = some (.cells C1 30) := by rw [hW]; exact obj_new_at _ _ _ (by simp)
  have hb0 : W.heap[w.heap.size]? = some (.cells C0 30) := by rw [hW]; exact obj_old (obj_new w _) _
  rw [hC0] at hb0 hW
  rw [hC1] at hb1 hW
  have HB0 := Lib.hid hb0
  have HB := Lib.hid hb1
  have HK := Lib.hid hk0
  clear hb1 hk0 hb0 hC0 hC1
  go_enter Tryz.func13, Tryz.ntmps13
  go_wp2_with fail
  rw [← hW]
  clear hW
  go_loopw [5] (fun i wr => ∃ j : Nat, j ≤ N ∧ i = .int .i64 (j : Int) ∧ Keeps W wr) (fun i _ => N - (intOf i).toNat)
  case atStart => exact ⟨0, by omega, rfl, Keeps.refl _⟩
  case round =>
    obtain ⟨j, hj, rfl, hkw⟩ := hrel
    have hkk := HK.out.trans hkw
    have hb := (hkw.below.block _ (obj_lt HB.out)).trans HB.out
    have hb00 := (hkw.below.block _ (obj_lt HB0.out)).trans HB0.out
    obtain ⟨⟨e0, e1, e2, e3, e4, e5, e6, e7, e8, e9, e10⟩, _⟩ := cells11 hb00
    obtain ⟨⟨f0, f1, f2, f3, f4, f5, f6, f7, f8, f9, f10⟩, _⟩ := cells11 hb
    have hbl := obj_lt hb
    clear hb hb00
    by_cases hlt : j < N
    · have hl1 : j < l.length := by rw [HN.out]; exact hlt
      obtain ⟨ad, x0, x1, x2, x3, x4, x5, x6, x7, x8, rfl, _, hcol, c0, c1, c2, c3, c4, c5, c6, c7, c8⟩ := (HS.out.later hkk.below).get j hl1
      obtain ⟨bd, y0, y1, y2, y3, y4, y5, y6, y7, y8, rfl, _, hdol, d0, d1, d2, d3, d4, d5, d6, d7, d8⟩ := (HT.out.later hkk.below).get j hl1
      generalize l[j]'hl1 = x at hcol hdol
      obtain ⟨⟨A2, k2, g2⟩, A8, k8, g8⟩ := hcol.form
      obtain ⟨⟨B2, q2, r2⟩, B8, q8, r8⟩ := hdol.form
      have hdv := hcol.dv
      have hdv' := hdol.dv
      rw [hcol.dk] at c4 hdv
      rw [hcol.di] at c5 hdv
      rw [hcol.df] at c6 hdv
      rw [hcol.dt] at c7 hdv
      rw [g8] at c8 hdv
      rw [hdol.dk] at d4 hdv'
      rw [hdol.di] at d5 hdv'
      rw [hdol.df] at d6 hdv'
      rw [hdol.dt] at d7 hdv'
      rw [r8] at d8 hdv'
      have hc := (exact_calls _ x.dflt _ _ wr.drew (Nat.lt_succ_self _) (hdv.later (Keeps.drew wr).below).at (hdv'.later (Keeps.drew wr).below).at).mono fun e w' h => (⟨h.1, (Keeps.drew wr).trans h.2⟩ : _ ∧ Keeps wr w')
      generalize x.dflt.items.length = z5 at *
      generalize x.dflt.kind = z7 at *
      generalize x.dflt.int = z9 at *
      generalize x.dflt.fl = z11 at *
      generalize x.dflt.text = z13 at *
      have HC := Lib.hid hc
      have HKW := Lib.hid hkw
      clear hc hkw hcol hdol hdv hdv' g2 g8 r2 r8 hkk c0 c1 c2 c3 d0 d1 d2 d3
      go_wp2_with fail
      go_region_law (go_simp; go_at_call 33; refine HC.out.mono ?_; rintro e w2 ⟨rfl, hk2⟩)
      all_goals
        have HK3 := Lib.hid (HKW.out.trans hk2)
        clear hk2
        go_wp2
        exact ⟨⟨j + 1, by omega, by go_num, HK3.out⟩, by simp [intOf]; omega⟩
    · go_wp2
      go_ret
      exact ⟨rfl, hkk⟩
end Go.Proofs.YtbhhhkilljnkfaaGreatDoor
/- The walk of FrameDecodes. Condition: the run reads; the tables are as laid. -/
namespace Go.Proofs.YtbhhhkilljnkfaaGreatDoor
open Go.RowKit Go.BigFrame
set_option linter.unusedVariables false
set_option linter.unusedSimpArgs false
attribute [local go_sem] run_storeF

/-- what either Decode tells: the frame, the zero frame where there is an error, and the error -/
def resF (r : Except Int Fr) : Fr := match r with | .error _ => frZero | .ok f => f
def resE (r : Except Int Fr) : Int := match r with | .error x => x | .ok _ => 0
theorem TakePost.told {w w' : World} {r : Except Int Fr} {e : Ending} (h : TakePost w r e w') : ∃ A c B d E k, e = .returned (.tuple #[.agg (frCells A c B d E k (resF r)), .int .i64 (resE r)]) ∧ FrO w' w.heap.size A B d E k (resF r) ∧ Keeps w w' := by
  cases r with
  | error x =>
    obtain ⟨h1, h2⟩ : _ ∧ _ := h
    exact ⟨none, 0, none, 0, none, 0, h1, ⟨SchS.nil _ _ _, OwnL.empty _ _ _ _, Loose.empty _ _ _ _ _⟩, h2⟩
  | ok f => exact h
theorem res_plain (run : List UInt8) : (resF (decF run)).plain := by
  cases h : decF run with
  | error x => exact frZero_plain
  | ok f => exact (decF_ok h).2.2.1
theorem res_len (run : List UInt8) : (resF (decF run)).block.length ≤ 2200 ∧ (resF (decF run)).ents.length ≤ 64 := by
  cases h : decF run with
  | error x => exact ⟨Nat.zero_le _, Nat.zero_le _⟩
  | ok f => exact dec_len h
/-- the frame that a call has told, and nothing below it, is written over -/
def Told (B T : Nat) (k : Nat) : Prop := B ≤ k ∧ k < T
theorem Told.keeps {B T : Nat} {w w' w'' : World} (hk : Keeps w w') (ht : Touch (Told B T) w' w'') (hB : w.heap.size ≤ B) : Keeps w w'' := by
  have h1 := hk.size
  exact Touch.to_below (F := fun j => w.heap.size ≤ j) ((Touch.of_below hk.below fun k hk h => h).trans ht fun j _ h => Nat.le_trans hB h.1) _ (fun k h _ => h) (Nat.le_refl _)
/-- a byte of one's own is written over -/
theorem spoilB {w : World} {base nb d : Nat} {B : Option Addr} {l : List UInt8} (h : OwnL 5 w base (.slice B nb d) l) (hl : l.length = nb) (j : Nat) (hj : j < nb) :
    ∃ g x, B = some ⟨g, 0, none⟩ ∧ base ≤ g ∧ g < w.heap.size ∧ blk (.slice B nb d) = some g ∧ w.cell? ⟨g, j, none⟩ = some x ∧ w.frozen? ⟨g, j, none⟩ = false ∧ OwnL 5 (w.setCell ⟨g, j, none⟩ (.int .u8 77)) base (.slice B nb d) (l.set j 77) := by
  obtain ⟨g, c, e, hb, hg, hc, hk⟩ := h.block (by omega)
  injection e with e1 e2 e3
  subst e1 e2 e3
  obtain ⟨h1, h2, h3⟩ := OwnL.store h j hj 77
  exact ⟨g, _, rfl, hb, hg, hk, h2, h3, h1⟩
/-- an entry of one's own is written over -/
theorem spoilE {w : World} {base n k : Nat} {E : Option Addr} {xs : List Value} (h : Loose w base 41 3 (.slice E n k) n xs) (j : Nat) (hj : j < n) :
    ∃ g x0 x1 x2 ys, E = some ⟨g, 0, none⟩ ∧ blk (.slice E n k) = some g ∧ base ≤ g ∧ g < w.heap.size ∧ w.cell? ⟨g, j * 3, none⟩ = some x0 ∧ w.cell? ⟨g, j * 3 + 1, none⟩ = some x1 ∧ w.cell? ⟨g, j * 3 + 2, none⟩ = some x2 ∧
      w.frozen? ⟨g, j * 3, none⟩ = false ∧ w.frozen? ⟨g, j * 3 + 1, none⟩ = false ∧ w.frozen? ⟨g, j * 3 + 2, none⟩ = false ∧
      Loose (((w.setCell ⟨g, j * 3, none⟩ (.int .i64 77)).setCell ⟨g, j * 3 + 1, none⟩ (.int .i64 0)).setCell ⟨g, j * 3 + 2, none⟩ (.int .i64 0)) base 41 3 (.slice E n k) n ys := by
  have hlen := h.length
  rcases h with ⟨A, h1, h2, _⟩ | ⟨g, cap, h1, hc, ho⟩
  · omega
  injection h1 with e1 e2 e3
  subst e1 e3
  have hL : Loose w base 41 3 (.slice (some ⟨g, 0, none⟩) n k) n xs := .inr ⟨g, k, rfl, hc, ho⟩
  have hbk : blk (.slice (some ⟨g, 0, none⟩) n k) = some g := by rw [blk, if_neg (by omega)]
  have hlt := hL.lt g hbk
  obtain ⟨A2, c2, e, _, hr, _⟩ := hL.form
  injection e with e1 e2 e3
  subst e1
  have cell : ∀ i, i < xs.length → ∃ x, w.cell? ⟨g, i, none⟩ = some x := fun i hi => by
    obtain ⟨ad, e1, h2⟩ := hr i _ (List.getElem?_eq_getElem hi)
    cases e1
    rw [addr_add_mk] at h2
    exact ⟨_, by simpa using h2⟩
  obtain ⟨x0, c0⟩ := cell (j * 3) (by omega)
  obtain ⟨x1, c1⟩ := cell (j * 3 + 1) (by omega)
  obtain ⟨x2, c2⟩ := cell (j * 3 + 2) (by omega)
  have s0 := Loose.store hL (by omega) (j * 3) (.int .i64 77)
  have s1 := Loose.store s0.1 (by omega) (j * 3 + 1) (.int .i64 0)
  have s2 := Loose.store s1.1 (by omega) (j * 3 + 2) (.int .i64 0)
  exact ⟨g, x0, x1, x2, _, rfl, hbk, hlt.1, hlt.2, c0, c1, c2, s0.2, (Loose.store hL (by omega) (j * 3 + 1) (.int .i64 0)).2, (Loose.store hL (by omega) (j * 3 + 2) (.int .i64 0)).2, s2.1⟩

set_option maxRecDepth 40000 in
set_option maxHeartbeats 8000000 in
theorem frDecodes_calls (A : Option Addr) (c : Nat) (run : List UInt8) (w : World) (hr : Reads w A run) (hl : run.length ≤ 140737488355328) (hlc : run.length ≤ c) (htb : Tabs w) (ht : Table w) :
    Calls Tryz.prog 4 #[.slice A run.length c] w fun e w' => e = .returned (.bool true) ∧ Keeps w w' := by
  obtain ⟨W, hW⟩ : ∃ W, W = w.alloc (.cells #[] 5) := ⟨_, rfl⟩
  have hk0 : Keeps w W := by rw [hW]; exact (Keeps.refl w).alloc _
  have hown : OwnB 5 W w.heap.size (.slice (some ⟨w.heap.size, 0, none⟩) 0 0) [] := by
    have h := OwnB.lit 5 w w.heap.size [] #[] rfl (by simp) (by simp)
    rw [← hW] at h
    simpa using h
  have hD1 := fun w1 (hk : Keeps w w1) => decode_calls A c run w1 (hr.below hk.below) hl hlc (htb.below hk.below) (ht.later hk.below)
  have hD2 := fun A' c' w1 (h : Reads w1 A' run) => refDecode_calls A' c' run w1 h hl
  have hpl := res_plain run
  have hlen := res_len run
  generalize decF run = R at hD1 hD2 hpl hlen
  have hsf := frSame_self (resF R)
  have hT1 := fun w1 (hk : Keeps w w1) => htb.below hk.below
  have hT2 := fun w1 (hk : Keeps w w1) => ht.later hk.below
  obtain ⟨F, hF⟩ : ∃ F, F = resF R := ⟨_, rfl⟩
  obtain ⟨X, hX⟩ : ∃ X, X = resE R := ⟨_, rfl⟩
  rw [← hF] at hpl hlen hsf
  have hD1 : ∀ w1, Keeps w w1 → Calls Tryz.prog 9 #[.slice A run.length c] w1 fun e w' => ∃ A c B d E k, e = .returned (.tuple #[.agg (frCells A c B d E k F), .int .i64 X]) ∧ FrO w' w1.heap.size A B d E k F ∧ Keeps w1 w' := fun w1 hk => (hD1 w1 hk).mono fun e w' h => by rw [hF, hX]; exact h.told
  have hD2 : ∀ A' c' w1, Reads w1 A' run → Calls Tryz.prog 10 #[.slice A' run.length c'] w1 fun e w' => ∃ A c B d E k, e = .returned (.tuple #[.agg (frCells A c B d E k F), .int .i64 X]) ∧ FrO w' w1.heap.size A B d E k F ∧ Keeps w1 w' := fun A' c' w1 hr => (hD2 A' c' w1 hr).mono fun e w' h => by rw [hF, hX]; exact h.told
  clear hF hX
  have D1 := Lib.hid hD1
  have D2 := Lib.hid hD2
  have T1 := Lib.hid hT1
  have T2 := Lib.hid hT2
  have HPL := Lib.hid hpl
  have HLEN := Lib.hid hlen
  have HSF := Lib.hid hsf
  have HRU := Lib.hid hr
  have HK := Lib.hid hk0
  have HO := Lib.hid hown
  have HW0 := Lib.hid hW
  clear hD1 hD2 hT1 hT2 hpl hlen hsf hr hk0 hown hW htb ht
  generalize hRL : run.length = RL at hl hlc D1 D2 ⊢
  have HRL := Lib.hid hRL
  clear hRL
  have qX : (X == X) = true := by simp
  unfold frCells at *
  go_enter Tryz.func4, Tryz.ntmps4
  go_wp2_with (at_builtin; rw [← HW0.out]; refine wpList_append_bytes (w0 := w) w.heap.size rfl _ _ 25 5 rfl Tryz.underlying25 info_u8b (.slice (some ⟨w.heap.size, 0, none⟩) 0 0) [] run rfl HO.out A c (by rw [HRL.out]; rfl) (HRU.out.below HK.out.below) ?c2 HK.out.size HK.out ?_)
  case c2 => have := HRL.out; simp; omega
  intro v3 w3 hown3 hb3 hg3 _
  obtain ⟨A3, M3, c3, rfl, hown3'⟩ := hown3.named (l' := run) (by simp)
  obtain ⟨A3', M3', c3', e4, HM3, HR3⟩ := hown3'.seen
  injection e4 with g1 g2 g3
  subst g1 g2 g3
  have e3 : M3 = RL := by rw [← HM3.out, ← HRL.out]
  subst e3
  have HK3 : Hid (Keeps w w3) := Lib.hid hb3
  clear hown3 hown3' hb3 hg3 HO HW0 HK HM3
  go_wp2_with fail
  refine (D1.out w3 HK3.out).mono ?_
  rintro e w4 ⟨A4, c4, B4, d4, E4, k4, rfl, hf4, hk4⟩
  obtain ⟨W5, hW5⟩ : ∃ W5, W5 = w4.alloc (.cells #[.int .i64 F.kind, .int .i64 F.number, .slice A4 F.cols.length c4, .int .i64 F.seq, .int .i64 F.first, .int .i64 F.rows, .slice B4 F.block.length d4, .int .i64 F.spot, .int .i64 F.frames, .int .i64 F.irows, .slice E4 F.ents.length k4] 30) := ⟨_, rfl⟩
  have hk45 : Keeps w4 W5 := by rw [hW5]; exact (Keeps.refl w4).alloc _
  have hbf : W5.heap[w4.heap.size]? = some (.cells #[.int .i64 F.kind, .int .i64 F.number, .slice A4 F.cols.length c4, .int .i64 F.seq, .int .i64 F.first, .int .i64 F.rows, .slice B4 F.block.length d4, .int .i64 F.spot, .int .i64 F.frames, .int .i64 F.irows, .slice E4 F.ents.length k4] 30) := by rw [hW5]; exact obj_new _ _
  have h5 : w4.heap.size < W5.heap.size := obj_lt hbf
  have HF4 := Lib.hid (hf4.below hk45.below)
  have HBU : Hid (∀ k, blk (.slice B4 F.block.length d4) = some k → k < w4.heap.size) := Lib.hid fun k hk => (hf4.blk.lt k hk).2
  have HEU : Hid (∀ k, blk (.slice E4 F.ents.length k4) = some k → k < w4.heap.size) := Lib.hid fun k hk => (hf4.ent.lt k hk).2
  have HK35 := Lib.hid (hk4.trans hk45)
  have HBF := Lib.hid hbf
  have HW5 := Lib.hid hW5
  clear hf4 hk4 hk45 hbf hW5
  go_wp2_with fail
  rw [← HW5.out]
  clear HW5
  refine (D2.out A3 c3 W5 (HR3.out.below HK35.out.below)).mono ?_
  rintro e w6 ⟨A6, c6, B6, d6, E6, k6, rfl, hf6, hk6⟩
  obtain ⟨W7, hW7⟩ : ∃ W7, W7 = w6.alloc (.cells #[.int .i64 F.kind, .int .i64 F.number, .slice A6 F.cols.length c6, .int .i64 F.seq, .int .i64 F.first, .int .i64 F.rows, .slice B6 F.block.length d6, .int .i64 F.spot, .int .i64 F.frames, .int .i64 F.irows, .slice E6 F.ents.length k6] 30) := ⟨_, rfl⟩
  have hk67 : Keeps w6 W7 := by rw [hW7]; exact (Keeps.refl w6).alloc _
  have hbg : W7.heap[w6.heap.size]? = some (.cells #[.int .i64 F.kind, .int .i64 F.number, .slice A6 F.cols.length c6, .int .i64 F.seq, .int .i64 F.first, .int .i64 F.rows, .slice B6 F.block.length d6, .int .i64 F.spot, .int .i64 F.frames, .int .i64 F.irows, .slice E6 F.ents.length k6] 30) := by rw [hW7]; exact obj_new _ _
  have h67 : w6.heap.size < W7.heap.size := obj_lt hbg
  have h56 := hk6.size
  have hk57 := hk6.trans hk67
  have hbf7 := (hk57.below.block _ (obj_lt HBF.out)).trans HBF.out
  have hbf6 := (hk6.below.block _ (obj_lt HBF.out)).trans HBF.out
  obtain ⟨⟨e0, e1, e2, e3, e4, e5, e6, e7, e8, e9, e10⟩, _⟩ := cells11 (x0 := .int .i64 F.kind) (x1 := .int .i64 F.number) (x2 := .slice A4 F.cols.length c4) (x3 := .int .i64 F.seq) (x4 := .int .i64 F.first) (x5 := .int .i64 F.rows) (x6 := .slice B4 F.block.length d4) (x7 := .int .i64 F.spot) (x8 := .int .i64 F.frames) (x9 := .int .i64 F.irows) (x10 := .slice E4 F.ents.length k4) hbf6
  have uf := obj_lt hbf6
  have HF7 := Lib.hid (HF4.out.below hk57.below)
  have HG7 := Lib.hid ((hf6.below hk67.below).toS HLEN.out.1 HLEN.out.2)
  have HBF7 := Lib.hid hbf7
  have HBG7 := Lib.hid hbg
  have HK37 := Lib.hid (HK35.out.trans hk57)
  have hs := refSame_calls A4 B4 E4 A6 B6 E6 c4 d4 k4 c6 d6 k6 _ _ F F W7 (HF7.out.toS HLEN.out.1 HLEN.out.2) HG7.out
  rw [HSF.out] at hs
  have HS := Lib.hid hs
  clear hf6 hk6 hk67 hbg hk57 hbf7 hbf6 hs HF4 HBF HK35
  unfold frCells at *
  go_wp2_with fail
  rw [← hW7]
  clear hW7
  refine HS.out.mono ?_
  rintro e w8 ⟨rfl, hk8⟩
  clear e0 e1 e2 e3 e4 e5 e6 e7 e8 e9 e10 uf
  have hbf8 := (hk8.below.block _ (obj_lt HBF7.out)).trans HBF7.out
  obtain ⟨⟨e0, e1, e2, e3, e4, e5, e6, e7, e8, e9, e10⟩, _⟩ := cells11 (x0 := .int .i64 F.kind) (x1 := .int .i64 F.number) (x2 := .slice A4 F.cols.length c4) (x3 := .int .i64 F.seq) (x4 := .int .i64 F.first) (x5 := .int .i64 F.rows) (x6 := .slice B4 F.block.length d4) (x7 := .int .i64 F.spot) (x8 := .int .i64 F.frames) (x9 := .int .i64 F.irows) (x10 := .slice E4 F.ents.length k4) hbf8
  have uf := obj_lt hbf8
  have hp := plain_calls A4 c4 B4 d4 E4 k4 F HPL.out w8
  have HP := Lib.hid hp
  have HK8 := Lib.hid hk8
  clear hk8 hbf8 hp HS
  unfold frCells at *
  go_wp2_with fail
  refine HP.out.mono ?_
  rintro e w9 ⟨rfl, hk9⟩
  have hk79 := HK8.out.trans hk9
  have hbf9 := (hk79.below.block _ (obj_lt HBF7.out)).trans HBF7.out
  have hbg9 := (hk79.below.block _ (obj_lt HBG7.out)).trans HBG7.out
  clear e0 e1 e2 e3 e4 e5 e6 e7 e8 e9 e10 uf
  obtain ⟨⟨e0, e1, e2, e3, e4, e5, e6, e7, e8, e9, e10⟩, _⟩ := cells11 (x0 := .int .i64 F.kind) (x1 := .int .i64 F.number) (x2 := .slice A4 F.cols.length c4) (x3 := .int .i64 F.seq) (x4 := .int .i64 F.first) (x5 := .int .i64 F.rows) (x6 := .slice B4 F.block.length d4) (x7 := .int .i64 F.spot) (x8 := .int .i64 F.frames) (x9 := .int .i64 F.irows) (x10 := .slice E4 F.ents.length k4) hbf9
  obtain ⟨⟨f0, f1, f2, f3, f4, f5, f6, f7, f8, f9, f10⟩, _⟩ := cells11 (x0 := .int .i64 F.kind) (x1 := .int .i64 F.number) (x2 := .slice A6 F.cols.length c6) (x3 := .int .i64 F.seq) (x4 := .int .i64 F.first) (x5 := .int .i64 F.rows) (x6 := .slice B6 F.block.length d6) (x7 := .int .i64 F.spot) (x8 := .int .i64 F.frames) (x9 := .int .i64 F.irows) (x10 := .slice E6 F.ents.length k6) hbg9
  have uf := obj_lt hbf9
  have ug := obj_lt hbg9
  have hfl := floats_calls A4 B4 E4 A6 B6 E6 c4 d4 k4 c6 d6 k6 _ _ F F w9 (HF7.out.below hk79.below).sch (HG7.out.later hk79.below).sch rfl
  have HFL := Lib.hid hfl
  have HK9 := Lib.hid hk79
  clear hk9 hk79 hbf9 hbg9 hfl HP HK8
  unfold frCells at *
  go_wp2_with fail
  refine HFL.out.mono ?_
  rintro e w10 ⟨rfl, hk10⟩
  clear e0 e1 e2 e3 e4 e5 e6 e7 e8 e9 e10 f0 f1 f2 f3 f4 f5 f6 f7 f8 f9 f10 uf ug
  have hk710 := HK9.out.trans hk10
  have hs1 := same12_calls A A3 c c3 run run w10 (by have := HRL.out; omega) (by have := HRL.out; omega) (HRU.out.below (HK3.out.trans (HK37.out.trans hk710)).below) (HR3.out.below (HK37.out.trans hk710).below)
  rw [decide_eq_true rfl, HRL.out] at hs1
  have HS1 := Lib.hid hs1
  have HK10 := Lib.hid hk710
  clear hk10 hk710 hs1 HFL HK9
  go_wp2_with fail
  refine HS1.out.mono ?_
  rintro e w11 ⟨rfl, hq11⟩
  have HK11 := Lib.hid (HK10.out.quiet hq11)
  have HBF11 := Lib.hid ((HK11.out.below.block _ (obj_lt HBF7.out)).trans HBF7.out)
  have HF11 := Lib.hid (HF7.out.below HK11.out.below)
  clear hq11 HS1 HK10 HF7 HBF7
  have hb2200 := HLEN.out.1
  have he64 := HLEN.out.2
  go_wp2_with fail
  go_loopw [9] (fun i wr => ∃ (j : Nat) (l : List UInt8) (xs : List Value), j ≤ F.block.length ∧ i = .int .i64 (j : Int) ∧ l.length = F.block.length ∧ OwnL 5 wr w3.heap.size (.slice B4 F.block.length d4) l ∧ Loose wr w3.heap.size 41 3 (.slice E4 F.ents.length k4) F.ents.length xs ∧ Touch (Told w3.heap.size w4.heap.size) w11 wr) (fun i _ => F.block.length - (intOf i).toNat)
  case atStart => exact ⟨0, _, _, by omega, rfl, rfl, HF11.out.blk, HF11.out.ent, Touch.refl _ _⟩
  case round =>
  obtain ⟨j, l, xs, hj, rfl, hll, hB, hE, htc⟩ := hrel
  have hbf := htc.obj HBF11.out (fun h => by have := h.2; omega)
  obtain ⟨⟨e0, e1, e2, e3, e4, e5, e6, e7, e8, e9, e10⟩, _⟩ := cells11 (x0 := .int .i64 F.kind) (x1 := .int .i64 F.number) (x2 := .slice A4 F.cols.length c4) (x3 := .int .i64 F.seq) (x4 := .int .i64 F.first) (x5 := .int .i64 F.rows) (x6 := .slice B4 F.block.length d4) (x7 := .int .i64 F.spot) (x8 := .int .i64 F.frames) (x9 := .int .i64 F.irows) (x10 := .slice E4 F.ents.length k4) hbf
  have uf := obj_lt hbf
  have HLL := Lib.hid hll
  have HTC := Lib.hid htc
  by_cases hlt : j < F.block.length
  case pos =>
    obtain ⟨g, x, rfl, hgb, hgl, hbk, z1, z2, hB'⟩ := spoilB hB hll j hlt
    have hE' := hE.far (p := ⟨g, j, none⟩) (Loose.type_ne hB hE (by decide) g hbk) (.int .u8 77)
    have hgt : g < w4.heap.size := HBU.out g hbk
    have HT2 := Lib.hid (HTC.out.setCell ⟨g, j, none⟩ (.int .u8 77) fun _ => ⟨hgb, hgt⟩)
    have HB' := Lib.hid hB'
    have HE' := Lib.hid hE'
    have HL' : Hid ((l.set j 77).length = F.block.length) := Lib.hid (by rw [List.length_set]; exact HLL.out)
    clear hB hE hB' hE' hbf hll htc
    go_wp2
    exact ⟨⟨j + 1, _, _, by omega, by go_num, HL'.out, HB'.out, HE'.out, HT2.out⟩, by simp [intOf]; omega⟩
  case neg =>
  have HE := Lib.hid hE
  clear hB hE hbf hll htc HLL
  go_wp2_with fail
  clear e0 e1 e2 e3 e4 e5 e6 e7 e8 e9 e10 uf
  obtain ⟨w12, hw12⟩ : ∃ w12, w12 = wr := ⟨_, rfl⟩
  rw [← hw12] at HTC HE ⊢
  clear hw12
  go_loopw [10] (fun i wz => ∃ (j : Nat) (xs : List Value), j ≤ F.ents.length ∧ i = .int .i64 (j : Int) ∧ Loose wz w3.heap.size 41 3 (.slice E4 F.ents.length k4) F.ents.length xs ∧ Touch (Told w3.heap.size w4.heap.size) w11 wz) (fun i _ => F.ents.length - (intOf i).toNat)
  case atStart => exact ⟨0, _, by omega, rfl, HE.out, HTC.out⟩
  case round =>
  obtain ⟨j, xs, hj, rfl, hE, htc⟩ := hrel
  have hbf := htc.obj HBF11.out (fun h => by have := h.2; omega)
  obtain ⟨⟨e0, e1, e2, e3, e4, e5, e6, e7, e8, e9, e10⟩, _⟩ := cells11 (x0 := .int .i64 F.kind) (x1 := .int .i64 F.number) (x2 := .slice A4 F.cols.length c4) (x3 := .int .i64 F.seq) (x4 := .int .i64 F.first) (x5 := .int .i64 F.rows) (x6 := .slice B4 F.block.length d4) (x7 := .int .i64 F.spot) (x8 := .int .i64 F.frames) (x9 := .int .i64 F.irows) (x10 := .slice E4 F.ents.length k4) hbf
  have uf := obj_lt hbf
  have HTC2 := Lib.hid htc
  by_cases hlt : j < F.ents.length
  case pos =>
    obtain ⟨g, x0, x1, x2, ys, rfl, hbk, hgb, hgl, z0, z1, z2, z3, z4, z5, hE'⟩ := spoilE hE j hlt
    have hgt : g < w4.heap.size := HEU.out g hbk
    have HT2 := Lib.hid (((HTC2.out.setCell ⟨g, j * 3, none⟩ (.int .i64 77) fun _ => ⟨hgb, hgt⟩).setCell ⟨g, j * 3 + 1, none⟩ (.int .i64 0) fun _ => ⟨hgb, hgt⟩).setCell ⟨g, j * 3 + 2, none⟩ (.int .i64 0) fun _ => ⟨hgb, hgt⟩)
    have HE' := Lib.hid hE'
    clear hE hE' hbf htc
    go_wp2
    exact ⟨⟨j + 1, _, by omega, by go_num, HE'.out, HT2.out⟩, by simp [intOf]; omega⟩
  case neg =>
  clear hE
  have hk311 := HK37.out.trans HK11.out
  have hk3 : Keeps w3 wr := Told.keeps hk311 htc (Nat.le_refl _)
  have hbg := htc.obj ((HK11.out.below.block _ (obj_lt HBG7.out)).trans HBG7.out) (fun h => by have := h.2; omega)
  have hg7 : FrS wr (fun b => W5.heap.size ≤ b) A6 B6 E6 F := (HG7.out.later HK11.out.below).touch htc fun k hk h => by have h1 : W5.heap.size ≤ k := hk; have := h.2; omega
  have HBG := Lib.hid hbg
  have HG := Lib.hid hg7
  have HKR := Lib.hid hk3
  have HD := Lib.hid (D1.out wr (HK3.out.trans hk3))
  clear hbf htc hk311 hk3 hbg hg7 HTC HTC2 HE HBF11 HF11 HK11 HG7 HBG7 HK37
  go_wp2_with fail
  clear e0 e1 e2 e3 e4 e5 e6 e7 e8 e9 e10 uf
  refine HD.out.mono ?_
  rintro e w13 ⟨A8, c8, B8, d8, E8, k8, rfl, hf8, hk13⟩
  obtain ⟨W14, hW14⟩ : ∃ W14, W14 = w13.alloc (.cells #[.int .i64 F.kind, .int .i64 F.number, .slice A8 F.cols.length c8, .int .i64 F.seq, .int .i64 F.first, .int .i64 F.rows, .slice B8 F.block.length d8, .int .i64 F.spot, .int .i64 F.frames, .int .i64 F.irows, .slice E8 F.ents.length k8] 30) := ⟨_, rfl⟩
  have hk134 : Keeps w13 W14 := by rw [hW14]; exact (Keeps.refl w13).alloc _
  have hbx : W14.heap[w13.heap.size]? = some (.cells #[.int .i64 F.kind, .int .i64 F.number, .slice A8 F.cols.length c8, .int .i64 F.seq, .int .i64 F.first, .int .i64 F.rows, .slice B8 F.block.length d8, .int .i64 F.spot, .int .i64 F.frames, .int .i64 F.irows, .slice E8 F.ents.length k8] 30) := by rw [hW14]; exact obj_new _ _
  have hkr14 := hk13.trans hk134
  have hlv := live_calls W14 (T1.out W14 (HK3.out.trans (HKR.out.trans hkr14))) (T2.out W14 (HK3.out.trans (HKR.out.trans hkr14)))
  have HW14 := Lib.hid hW14
  have HX14 := Lib.hid ((hf8.below hk134.below).toS HLEN.out.1 HLEN.out.2)
  have HBX := Lib.hid hbx
  have HKR14 := Lib.hid hkr14
  have HLV := Lib.hid hlv
  clear hf8 hk13 hk134 hbx hkr14 hlv hW14 HD
  unfold frCells at *
  go_wp2_with fail
  rw [← HW14.out]
  clear HW14
  refine HLV.out.mono ?_
  rintro e w15 ⟨rfl, hk15⟩
  have hkr15 := HKR14.out.trans hk15
  have hbx15 := (hk15.below.block _ (obj_lt HBX.out)).trans HBX.out
  have hbg15 := (hkr15.below.block _ (obj_lt HBG.out)).trans HBG.out
  have ux := obj_lt hbx15
  have ug := obj_lt hbg15
  obtain ⟨⟨e0, e1, e2, e3, e4, e5, e6, e7, e8, e9, e10⟩, _⟩ := cells11 (x0 := .int .i64 F.kind) (x1 := .int .i64 F.number) (x2 := .slice A8 F.cols.length c8) (x3 := .int .i64 F.seq) (x4 := .int .i64 F.first) (x5 := .int .i64 F.rows) (x6 := .slice B8 F.block.length d8) (x7 := .int .i64 F.spot) (x8 := .int .i64 F.frames) (x9 := .int .i64 F.irows) (x10 := .slice E8 F.ents.length k8) hbx15
  obtain ⟨⟨f0, f1, f2, f3, f4, f5, f6, f7, f8, f9, f10⟩, _⟩ := cells11 (x0 := .int .i64 F.kind) (x1 := .int .i64 F.number) (x2 := .slice A6 F.cols.length c6) (x3 := .int .i64 F.seq) (x4 := .int .i64 F.first) (x5 := .int .i64 F.rows) (x6 := .slice B6 F.block.length d6) (x7 := .int .i64 F.spot) (x8 := .int .i64 F.frames) (x9 := .int .i64 F.irows) (x10 := .slice E6 F.ents.length k6) hbg15
  have hs := refSame_calls A8 B8 E8 A6 B6 E6 c8 d8 k8 c6 d6 k6 _ _ F F w15 (HX14.out.later hk15.below) (HG.out.later hkr15.below)
  rw [HSF.out] at hs
  have HS := Lib.hid hs
  have HK15 := Lib.hid (HKR.out.trans hkr15)
  clear hk15 hkr15 hbx15 hbg15 hs HLV HKR14 HBX HX14 HG HBG HKR
  unfold frCells at *
  go_wp2_with fail
  refine HS.out.mono ?_
  rintro e w16 ⟨rfl, hk16⟩
  clear e0 e1 e2 e3 e4 e5 e6 e7 e8 e9 e10 f0 f1 f2 f3 f4 f5 f6 f7 f8 f9 f10
  have hk316 := HK15.out.trans hk16
  have hs1 := same12_calls A A3 c c3 run run w16 (by have := HRL.out; omega) (by have := HRL.out; omega) (HRU.out.below (HK3.out.trans hk316).below) (HR3.out.below hk316.below)
  rw [decide_eq_true rfl, HRL.out] at hs1
  have HS1 := Lib.hid hs1
  have HK16 := Lib.hid (HK3.out.trans hk316)
  clear hk16 hk316 hs1 HS HK15
  go_wp2_with fail
  refine HS1.out.mono ?_
  rintro e w17 ⟨rfl, hq17⟩
  have HK17 := Lib.hid (HK16.out.quiet hq17)
  clear hq17
  go_wp2
  go_ret
  exact ⟨rfl, HK17.out⟩
end Go.Proofs.YtbhhhkilljnkfaaGreatDoor
