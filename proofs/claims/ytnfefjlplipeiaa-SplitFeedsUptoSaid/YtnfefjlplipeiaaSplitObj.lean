/-
  The walks of the splitter's own functions. Condition: its block holds its five fields.
-/
import Derived.Test.YtnfefjlplipeiaaTouch
namespace Go.Proofs.Ytnfefjlplipeiaa
open Go.RowKit
set_option linter.unusedVariables false
set_option linter.unusedSimpArgs false

/-- the splitter's fields -/
def spCells (nx : Value) (at_ fence : Int) (inn : Bool) (held : Value) : Array Value := #[nx, .int .i64 at_, .int .i64 fence, .bool inn, held]
def aheadOf (g : Nat) : Value := .func (.func 24) #[.pointer (some ⟨g, 0, none⟩)] #[]
def withinOf (g : Nat) : Value := .func (.func 25) #[.pointer (some ⟨g, 0, none⟩)] #[]

set_option maxHeartbeats 400000 in
theorem splitNew_calls (w : World) :
    Calls Try.prog 18 #[] w fun e w' => e = .returned (.pointer (some ⟨w.heap.size, 0, none⟩)) ∧ w.alloc (.cells (spCells (aheadOf w.heap.size) 0 0 false (.slice none 0 0)) 49) = w' := by
  unfold spCells aheadOf
  go_enter Try.func18, Try.ntmps18
  go_wp2
  go_ret
  exact ⟨rfl, rfl⟩

/-- the five cells -/
theorem sp_cells {w : World} {g : Nat} {nx held : Value} {at_ fence : Int} {inn : Bool} (hg : w.heap[g]? = some (.cells (spCells nx at_ fence inn held) 49 (0, 0))) :
    w.cell? ⟨g, 0, none⟩ = some nx ∧ w.cell? ⟨g, 1, none⟩ = some (.int .i64 at_) ∧ w.cell? ⟨g, 2, none⟩ = some (.int .i64 fence) ∧ w.cell? ⟨g, 3, none⟩ = some (.bool inn) ∧ w.cell? ⟨g, 4, none⟩ = some held ∧ ∀ i, w.frozen? ⟨g, i, none⟩ = false :=
  ⟨by rw [obj_cell hg]; rfl, by rw [obj_cell hg]; rfl, by rw [obj_cell hg]; rfl, by rw [obj_cell hg]; rfl, by rw [obj_cell hg]; rfl, obj_frozen hg⟩

set_option maxHeartbeats 400000 in
theorem open_calls (g : Nat) (nx : Value) (at_ fence : Int) (inn : Bool) (held : Value) (w : World) (hg : w.heap[g]? = some (.cells (spCells nx at_ fence inn held) 49 (0, 0))) :
    Calls Try.prog 26 #[.pointer (some ⟨g, 0, none⟩)] w fun e w' => e = .returned (.tuple #[]) ∧ w'.heap[g]? = some (.cells (spCells (withinOf g) at_ at_ true (.slice none 0 0)) 49 (0, 0)) ∧ Touch (At g) w w' := by
  obtain ⟨c0, c1, c2, c3, c4, f⟩ := sp_cells hg
  have HG := Lib.hid hg
  clear hg
  go_enter Try.func26, Try.ntmps26
  go_wp2
  go_end0
  refine ⟨rfl, ?_, ?_⟩
  · exact obj_set (obj_set (obj_set (obj_set HG.out 2 (.int .i64 at_)) 4 (.slice none 0 0)) 3 (.bool true)) 0 (withinOf g)
  · exact ((((Touch.refl _ _).set 2 _).set 4 _).set 3 _).set 0 _

/-- a run that is none -/
def noRun : Value := .agg #[.int .i64 0, .slice none 0 0]

set_option maxHeartbeats 400000 in
theorem ahead_calls (g : Nat) (c : Nat) (w : World) (hc : c ≠ 0) :
    Calls Try.prog 24 #[.pointer (some ⟨g, 0, none⟩), .int .u8 (c : Int)] w fun e w' => e = .returned (.tuple #[noRun, .bool false]) ∧ Below w.heap.size w w' := by
  have hb : ((c : Int) == 0) = false := by rw [beq_eq_false_iff_ne]; omega
  unfold noRun
  go_enter Try.func24, Try.ntmps24
  go_wp2
  exact bodyPost_ret (v := .tuple #[.agg #[.int .i64 0, .slice none 0 0], .bool false]) (by simp [results, Try.results24, go_sem]) rfl ⟨rfl, (Below.refl _ _).alloc (Nat.le_refl _) _⟩
theorem ahead_zero (g : Nat) (nx : Value) (at_ fence : Int) (inn : Bool) (held : Value) (w : World) (hg : w.heap[g]? = some (.cells (spCells nx at_ fence inn held) 49 (0, 0))) :
    Calls Try.prog 24 #[.pointer (some ⟨g, 0, none⟩), .int .u8 0] w fun e w' => e = .returned (.tuple #[noRun, .bool false]) ∧ w'.heap[g]? = some (.cells (spCells (withinOf g) at_ at_ true (.slice none 0 0)) 49 (0, 0)) ∧ Touch (At g) w w' := by
  have hn := obj_old hg (.cells #[.int .i64 0, .slice none 0 0] 42)
  have HN := Lib.hid hn
  have hne := obj_lt hg
  clear hn hg
  unfold noRun
  go_enter Try.func24, Try.ntmps24
  go_wp2_with fail
  refine (open_calls g nx at_ fence inn held _ HN.out).mono ?_
  rintro e w1 ⟨rfl, hg1, ht⟩
  have HG := Lib.hid hg1
  have HT := Lib.hid ht
  have hnew : w1.heap[w.heap.size]? = some (.cells #[.int .i64 0, .slice none 0 0] 42) := ht.obj (obj_new w _) (fun e : w.heap.size = g => by omega)
  obtain ⟨c0, c1, f0, f1⟩ := cells2 hnew
  have HN1 := Lib.hid hnew
  clear hg1 ht hnew
  go_wp2
  refine bodyPost_ret (v := .tuple #[.agg #[.int .i64 0, .slice none 0 0], .bool false]) (by simp [results, Try.results24, go_sem, c0, c1, f0, f1]) rfl ⟨rfl, ?_, ?_⟩
  · have h1 := obj_far HG.out (p := ⟨w.heap.size, 0, none⟩) (fun e : g = w.heap.size => by omega) (.int .i64 0)
    exact obj_far h1 (p := ⟨w.heap.size, 1, none⟩) (fun e : g = w.heap.size => by omega) (.slice none 0 0)
  · exact ((((Touch.refl (At g) w).alloc _).then (HT.out.mono fun _ _ h => h) ).setCell _ _ fun h => absurd h (by simp)).setCell _ _ fun h => absurd h (by simp)

theorem info_u8 : (Try.prog.info? 5).map (fun i => (i.zero, i.size, i.bytes)) = some (some (.int .u8 0), 1, 1) := by kernel_rfl

set_option maxHeartbeats 800000 in
/-- within, a byte more -/
theorem within_more (g : Nat) (nx : Value) (at_ fence : Int) (inn : Bool) (hv : Value) (l : List UInt8) (c : UInt8) (w : World) (hg : w.heap[g]? = some (.cells (spCells nx at_ fence inn hv) 49 (0, 0)))
    (ho : OwnB 5 w 0 hv l) (hc : c.toNat ≠ 0) (hl : l.length < 2200) :
    Calls Try.prog 25 #[.pointer (some ⟨g, 0, none⟩), .int .u8 ((c.toNat : Nat) : Int)] w fun e w' => e = .returned (.tuple #[noRun, .bool false]) ∧
      ∃ hv', w'.heap[g]? = some (.cells (spCells nx at_ fence inn hv') 49 (0, 0)) ∧ OwnB 5 w' 0 hv' (l ++ [c]) ∧ (∀ k, hv'.ownBlock = some k → hv.ownBlock = some k ∨ w.heap.size ≤ k) ∧ Touch (fun k => k = g ∨ hv.ownBlock = some k) w w' := by
  have hb : (((c.toNat : Nat) : Int) != 0) = true := by rw [bne_iff_ne]; omega
  have hlen : ((l.length : Int) == 2200) = false := by rw [beq_eq_false_iff_ne]; omega
  obtain ⟨A, cap, rfl, hcap, hr, hcm, hnil⟩ := ho.form
  have hne := own_obj_ne ho hg (by decide)
  have hgs := obj_lt hg
  obtain ⟨c0, c1, c2, c3, c4, f⟩ := sp_cells hg
  have HG := Lib.hid hg
  have HO := Lib.hid ho
  have HNE := Lib.hid hne
  clear hg ho hne hr hcm hnil
  unfold noRun
  go_enter Try.func25, Try.ntmps25
  go_wp2_with (at_builtin; refine wpList_append_bytes (w0 := w) 0 rfl _ _ 28 5 rfl Try.underlying28 info_u8 _ l [c] rfl ?c0 _ 1 rfl ?c1 ?c2 ?c3 ?c4 ?_)
  case c0 => exact HO.out.below (((Below.refl _ _).alloc (Nat.le_refl _) _).alloc (by simp) _)
  case c1 => exact Reads.new_at _ [c] 5 (0, 0) #[.int .u8 ((c.toNat : Nat) : Int)] rfl _ (by simp)
  case c2 => simp; omega
  case c3 => exact Nat.zero_le _
  case c4 => exact ⟨rfl, rfl, rfl, by simp; omega, fun k hk => absurd hk (by omega)⟩
  intro v1 w1 hown _ hgr hat
  have T1 : Touch (fun k => (Value.slice A l.length cap).ownBlock = some k) w w1 := (((Touch.refl _ w).alloc _).alloc _).grown hgr (fun i h _ => h)
  have hg1 := T1.obj HG.out HNE.out
  have hown0 := HO.out
  have hn1 : w1.heap[w.heap.size]? = some (.cells #[.int .i64 0, .slice none 0 0] 42) := by
    rw [hgr.block w.heap.size (by simp; omega) (fun e => by have := own_lt hown0 _ e.symm; omega)]
    exact obj_old (obj_new w _) _
  obtain ⟨d0, d1, d2, d3, d4, df⟩ := sp_cells hg1
  obtain ⟨r0, r1, rf0, rf1⟩ := cells2 hn1
  have hat2 : ∀ k, v1.ownBlock = some k → (Value.slice A l.length cap).ownBlock = some k ∨ w.heap.size ≤ k := by
    intro k hk
    rcases hat with h | h
    · exact .inl (by rw [← h]; exact hk)
    · rw [h] at hk; injection hk with hk; omega
  have hvg := own_obj_ne hown hg1 (by decide)
  obtain ⟨A1, cap1, rfl, _⟩ := hown.form
  have hvn := own_obj_ne hown hn1 (by decide)
  have hsz := T1.size
  have hszn := obj_lt hn1
  have HG1 := Lib.hid hg1
  have HN1 := Lib.hid hn1
  have HT1 := Lib.hid T1
  have HO1 := Lib.hid hown
  have HA2 := Lib.hid hat2
  have HVG := Lib.hid hvg
  have HVN := Lib.hid hvn
  clear hg1 hn1 T1 hown hat2 hvg hvn hgr hat hown0 c0 c1 c2 c3 c4 f
  go_wp2
  refine bodyPost_ret (v := .tuple #[.agg #[.int .i64 0, .slice none 0 0], .bool false]) (by simp [results, Try.results25, go_sem, r0, r1, rf0, rf1]) rfl ⟨rfl, .slice A1 (l ++ [c]).length cap1, ?_, ?_, HA2.out, ?_⟩
  · have h0 := obj_set HG1.out 4 (.slice A1 (l.length + 1) cap1)
    have h1 := obj_far h0 (p := ⟨w.heap.size, 0, none⟩) (fun e : g = w.heap.size => by omega) (.int .i64 0)
    have h2 := obj_far h1 (p := ⟨w.heap.size, 1, none⟩) (fun e : g = w.heap.size => by omega) (.slice none 0 0)
    rw [List.length_append]
    exact h2
  · exact ownB_far (ownB_far (ownB_far HO1.out (p := ⟨g, 4, none⟩) HVG.out _) (p := ⟨w.heap.size, 0, none⟩) HVN.out _) (p := ⟨w.heap.size, 1, none⟩) HVN.out _
  · exact (((HT1.out.mono fun _ _ h => .inr h).setCell _ _ fun _ => .inl rfl).setCell _ _ fun h => absurd h (by simp)).setCell _ _ fun h => absurd h (by simp)

set_option maxHeartbeats 800000 in
/-- within, a byte too many -/
theorem within_full (g : Nat) (nx : Value) (at_ fence : Int) (inn : Bool) (A : Option Addr) (cap : Nat) (c : UInt8) (w : World) (hg : w.heap[g]? = some (.cells (spCells nx at_ fence inn (.slice A 2200 cap)) 49 (0, 0)))
    (hc : c.toNat ≠ 0) :
    Calls Try.prog 25 #[.pointer (some ⟨g, 0, none⟩), .int .u8 ((c.toNat : Nat) : Int)] w fun e w' => e = .returned (.tuple #[noRun, .bool false]) ∧
      w'.heap[g]? = some (.cells (spCells (aheadOf g) at_ fence false (.slice none 0 0)) 49 (0, 0)) ∧ Touch (At g) w w' := by
  have hb : (((c.toNat : Nat) : Int) != 0) = true := by rw [bne_iff_ne]; omega
  have hgs := obj_lt hg
  obtain ⟨c0, c1, c2, c3, c4, f⟩ := sp_cells hg
  have HG := Lib.hid hg
  clear hg
  unfold noRun
  go_enter Try.func25, Try.ntmps25
  go_wp2
  refine bodyPost_ret (v := .tuple #[.agg #[.int .i64 0, .slice none 0 0], .bool false]) (by simp [results, Try.results25, go_sem]) rfl ⟨rfl, ?_, ?_⟩
  · exact obj_old (obj_set (obj_set (obj_set HG.out 4 (.slice none 0 0)) 3 (.bool false)) 0 (aheadOf g)) _
  · exact ((((Touch.refl _ _).set 4 _).set 3 _).set 0 _).alloc _

set_option maxHeartbeats 800000 in
/-- within, a fence -/
theorem within_zero (g : Nat) (nx : Value) (at_ fence : Int) (inn : Bool) (A : Option Addr) (n cap : Nat) (w : World) (hg : w.heap[g]? = some (.cells (spCells nx at_ fence inn (.slice A n cap)) 49 (0, 0))) :
    Calls Try.prog 25 #[.pointer (some ⟨g, 0, none⟩), .int .u8 0] w fun e w' => e = .returned (.tuple #[.agg #[.int .i64 fence, .slice A n cap], .bool (decide (0 < n))]) ∧
      w'.heap[g]? = some (.cells (spCells (withinOf g) at_ at_ true (.slice none 0 0)) 49 (0, 0)) ∧ Touch (At g) w w' := by
  have hgs := obj_lt hg
  obtain ⟨c0, c1, c2, c3, c4, f⟩ := sp_cells hg
  have HG := Lib.hid hg
  clear hg
  go_enter Try.func25, Try.ntmps25
  go_wp2
  go_region
  go_wp2_with fail
  have HG2 : ((w.alloc (.cells #[.int .i64 0, .slice none 0 0] 42)).alloc (.cells #[.int .i64 fence, .slice A n cap] 42)).drew.heap[g]? = some (.cells (spCells nx at_ fence inn (.slice A n cap)) 49 (0, 0)) := obj_old (obj_old HG.out _) _
  refine (open_calls g nx at_ fence inn (.slice A n cap) _ HG2).mono ?_
  rintro e w1 ⟨rfl, hg1, ht⟩
  have hr : w1.heap[w.heap.size]? = some (.cells #[.int .i64 0, .slice none 0 0] 42) := ht.obj (obj_old (obj_new w _) _) (fun e : w.heap.size = g => by omega)
  have hr2 : w1.heap[w.heap.size + 1]? = some (.cells #[.int .i64 fence, .slice A n cap] 42) := ht.obj (obj_new_at _ _ _ (by simp)) (fun e : w.heap.size + 1 = g => by omega)
  have ht2 : Touch (At g) w w1 := ((((Touch.refl _ w).alloc _).alloc _).drew).then (ht.mono fun _ _ h => h)
  obtain ⟨r0, r1, rf0, rf1⟩ := cells2 hr
  obtain ⟨s0, s1, sf0, sf1⟩ := cells2 hr2
  have HG1 := Lib.hid hg1
  have HT := Lib.hid ht2
  clear hg1 ht ht2 hr hr2 c0 c1 c2 c3 c4 f HG2 HG
  go_wp2
  go_region
  go_wp2
  refine bodyPost_ret (v := .tuple #[.agg #[.int .i64 fence, .slice A n cap], .bool (decide (0 < n))]) (by simp [results, Try.results25, go_sem, r0, r1, rf0, rf1]) rfl ⟨rfl, ?_, ?_⟩
  · exact obj_far (obj_far HG1.out (p := ⟨w.heap.size, 0, none⟩) (fun e : g = w.heap.size => by omega) (.int .i64 fence)) (p := ⟨w.heap.size, 1, none⟩) (fun e : g = w.heap.size => by omega) (.slice A n cap)
  · exact ((HT.out.setCell _ _ fun h => absurd h (by simp)).setCell _ _ fun h => absurd h (by simp)).drew

set_option maxHeartbeats 400000 in
theorem held_calls (g : Nat) (nx : Value) (at_ fence : Int) (inn : Bool) (A : Option Addr) (n cap : Nat) (w : World) (hg : w.heap[g]? = some (.cells (spCells nx at_ fence inn (.slice A n cap)) 49 (0, 0))) :
    Calls Try.prog 20 #[.pointer (some ⟨g, 0, none⟩)] w fun e w' => e = .returned (.int .i64 (n : Int)) ∧ w = w' := by
  obtain ⟨c0, c1, c2, c3, c4, f⟩ := sp_cells hg
  clear hg
  go_enter Try.func20, Try.ntmps20
  go_wp2
  go_ret
  exact ⟨rfl, rfl⟩
set_option maxHeartbeats 400000 in
theorem at_calls (g : Nat) (nx : Value) (at_ fence : Int) (inn : Bool) (hv : Value) (w : World) (hg : w.heap[g]? = some (.cells (spCells nx at_ fence inn hv) 49 (0, 0))) :
    Calls Try.prog 22 #[.pointer (some ⟨g, 0, none⟩)] w fun e w' => e = .returned (.int .i64 at_) ∧ w = w' := by
  obtain ⟨c0, c1, c2, c3, c4, f⟩ := sp_cells hg
  clear hg
  go_enter Try.func22, Try.ntmps22
  go_wp2
  go_ret
  exact ⟨rfl, rfl⟩
end Go.Proofs.Ytnfefjlplipeiaa
