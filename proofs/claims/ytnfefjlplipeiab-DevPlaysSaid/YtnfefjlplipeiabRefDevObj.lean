/-
  The document's file of bytes in memory: its block, its row. Condition: the block stands for the machine.
-/
import Derived.Test.YtnfefjlplipeiabDevRead
namespace Go.Proofs.Ytnfefjlplipeiab
open Go.RowKit
set_option linter.unusedVariables false
set_option linter.unusedSimpArgs false

def rvCells (v : Value) (q s : Int) (dn bd : Bool) (af kp td dd : Int) : Array Value := #[v, .int .i64 q, .int .i64 s, .bool dn, .bool bd, .int .i64 af, .int .i64 kp, .int .i64 td, .int .i64 dd]
def BoundIs (bd : Bool) (af kp : Int) : Option (Nat × Nat) → Prop
  | none => bd = false
  | some (a, k) => bd = true ∧ af = a ∧ kp = k
/-- the document's file at g: its row v -/
def RvAt (w : World) (g : Nat) (v : Value) (bd : Bool) (af kp : Int) (d : Dv) : Prop :=
  w.heap[g]? = some (.cells (rvCells v d.quota d.synced d.down bd af kp d.counted d.deeds) 67 (0, 0)) ∧ OwnL 5 w 0 v d.b ∧ BoundIs bd af kp d.bound
theorem rv_cells {w : World} {g : Nat} {v : Value} {q s af kp td dd : Int} {dn bd : Bool} (hg : w.heap[g]? = some (.cells (rvCells v q s dn bd af kp td dd) 67 (0, 0))) :
    w.cell? ⟨g, 0, none⟩ = some v ∧ w.cell? ⟨g, 1, none⟩ = some (.int .i64 q) ∧ w.cell? ⟨g, 2, none⟩ = some (.int .i64 s) ∧ w.cell? ⟨g, 3, none⟩ = some (.bool dn) ∧ w.cell? ⟨g, 4, none⟩ = some (.bool bd) ∧ w.cell? ⟨g, 5, none⟩ = some (.int .i64 af) ∧ w.cell? ⟨g, 6, none⟩ = some (.int .i64 kp) ∧ w.cell? ⟨g, 7, none⟩ = some (.int .i64 td) ∧ w.cell? ⟨g, 8, none⟩ = some (.int .i64 dd) ∧ ∀ i, w.frozen? ⟨g, i, none⟩ = false :=
  ⟨by rw [obj_cell hg]; rfl, by rw [obj_cell hg]; rfl, by rw [obj_cell hg]; rfl, by rw [obj_cell hg]; rfl, by rw [obj_cell hg]; rfl, by rw [obj_cell hg]; rfl, by rw [obj_cell hg]; rfl, by rw [obj_cell hg]; rfl, by rw [obj_cell hg]; rfl, obj_frozen hg⟩
def RV (w : World) (S : Nat → Prop) (g : Nat) (d : Dv) : Prop :=
  ∃ v bd af kp, RvAt w g v bd af kp d ∧ S g ∧ ∀ k, blk v = some k → S k
theorem RvAt.apart {w : World} {g : Nat} {v : Value} {bd : Bool} {af kp : Int} {d : Dv} (h : RvAt w g v bd af kp d) : blk v ≠ some g := h.2.1.ne h.1 (by decide)
theorem RvAt.keep {F : Nat → Prop} {w w' : World} {g : Nat} {v : Value} {bd : Bool} {af kp : Int} {d : Dv} (h : RvAt w g v bd af kp d) (ht : Touch F w w') (hg : ¬ F g) (hv : ∀ k, blk v = some k → ¬ F k) : RvAt w' g v bd af kp d :=
  ⟨ht.obj h.1 hg, h.2.1.keep ht hv, h.2.2⟩
theorem RvAt.poke {w : World} {g : Nat} {v : Value} {bd bd' : Bool} {af kp af' kp' : Int} {d d' : Dv} (h : RvAt w g v bd af kp d) (i : Nat) (u : Value) (hc : (rvCells v d.quota d.synced d.down bd af kp d.counted d.deeds).setIfInBounds i u = rvCells v d'.quota d'.synced d'.down bd' af' kp' d'.counted d'.deeds) (hb : d'.b = d.b) (hbd : BoundIs bd' af' kp' d'.bound) :
    RvAt (w.setCell ⟨g, i, none⟩ u) g v bd' af' kp' d' :=
  ⟨by rw [← hc]; exact obj_set h.1 i u, by rw [hb]; exact h.2.1.far (p := ⟨g, i, none⟩) h.apart _, hbd⟩
theorem RV.mono {w : World} {S T : Nat → Prop} {g : Nat} {d : Dv} (h : RV w S g d) (hS : ∀ k, k < w.heap.size → S k → T k) : RV w T g d := by
  obtain ⟨v, bd, af, kp, hat, h1, h2⟩ := h
  exact ⟨v, bd, af, kp, hat, hS g (obj_lt hat.1) h1, fun k hk => hS k (hat.2.1.lt k hk).2 (h2 k hk)⟩
theorem RV.self {w : World} {S : Nat → Prop} {g : Nat} {d : Dv} (h : RV w S g d) : S g := by
  obtain ⟨v, bd, af, kp, hat, h1, h2⟩ := h
  exact h1
theorem RV.lt {w : World} {S : Nat → Prop} {g : Nat} {d : Dv} (h : RV w S g d) : g < w.heap.size := by
  obtain ⟨v, bd, af, kp, hat, h1, h2⟩ := h
  exact obj_lt hat.1
theorem RV.keep {F S : Nat → Prop} {w w' : World} {g : Nat} {d : Dv} (h : RV w S g d) (ht : Touch F w w') (hF : ∀ k, k < w.heap.size → S k → ¬ F k) : RV w' S g d := by
  obtain ⟨v, bd, af, kp, hat, h1, h2⟩ := h
  exact ⟨v, bd, af, kp, hat.keep ht (hF g (obj_lt hat.1) h1) (fun k hk => hF k (hat.2.1.lt k hk).2 (h2 k hk)), h1, h2⟩
theorem RV.below {S : Nat → Prop} {w w' : World} {g : Nat} {d : Dv} (h : RV w S g d) (hb : Below w.heap.size w w') : RV w' S g d :=
  h.keep (F := fun _ => False) (Touch.of_below hb fun k hk hb => absurd hk (by omega)) fun _ _ _ h => h
theorem RV.here {w : World} {S : Nat → Prop} {g : Nat} {d : Dv} (h : RV w S g d) : RV w (fun k => S k ∧ k < w.heap.size) g d := h.mono fun _ hk hS => ⟨hS, hk⟩
theorem RV.same {S : Nat → Prop} {w w' : World} {g : Nat} {d : Dv} (h : RV w S g d) (hb : Below w.heap.size w w') : RV w' (More S w) g d := (h.below hb).mono fun _ _ h => .inl h

section
variable (g : Nat) (S : Nat → Prop) (d : Dv) (w : World) (hd : RV w S g d)
include hd
set_option maxHeartbeats 400000 in
theorem refLen_calls : Calls Try.prog 61 #[.pointer (some ⟨g, 0, none⟩)] w fun e w' => e = .returned (.int .i64 (d.b.length : Int)) ∧ w = w' := by
  obtain ⟨v, bd, af, kp, hat, hSg, hSv⟩ := hd
  obtain ⟨A, c, rfl, _⟩ := hat.2.1.form
  obtain ⟨c0, c1, c2, c3, c4, c5, c6, c7, c8, fz⟩ := rv_cells hat.1
  clear hat hSg hSv
  go_enter Try.func61, Try.ntmps61
  go_wp2
  go_ret
  exact ⟨rfl, rfl⟩
set_option maxHeartbeats 400000 in
theorem refSynced_calls : Calls Try.prog 64 #[.pointer (some ⟨g, 0, none⟩)] w fun e w' => e = .returned (.int .i64 (d.synced : Int)) ∧ w = w' := by
  obtain ⟨v, bd, af, kp, hat, hSg, hSv⟩ := hd
  obtain ⟨c0, c1, c2, c3, c4, c5, c6, c7, c8, fz⟩ := rv_cells hat.1
  clear hat hSg hSv
  go_enter Try.func64, Try.ntmps64
  go_wp2
  go_ret
  exact ⟨rfl, rfl⟩
set_option maxHeartbeats 400000 in
theorem refWritten_calls : Calls Try.prog 67 #[.pointer (some ⟨g, 0, none⟩)] w fun e w' => e = .returned (.int .i64 (d.deeds : Int)) ∧ w = w' := by
  obtain ⟨v, bd, af, kp, hat, hSg, hSv⟩ := hd
  obtain ⟨c0, c1, c2, c3, c4, c5, c6, c7, c8, fz⟩ := rv_cells hat.1
  clear hat hSg hSv
  go_enter Try.func67, Try.ntmps67
  go_wp2
  go_ret
  exact ⟨rfl, rfl⟩
set_option maxHeartbeats 400000 in
theorem refUp_calls : Calls Try.prog 60 #[.pointer (some ⟨g, 0, none⟩)] w fun e w' => e = .returned (.bool (!d.down)) ∧ w = w' := by
  obtain ⟨v, bd, af, kp, hat, hSg, hSv⟩ := hd
  obtain ⟨c0, c1, c2, c3, c4, c5, c6, c7, c8, fz⟩ := rv_cells hat.1
  clear hat hSg hSv
  go_enter Try.func60, Try.ntmps60
  go_wp2
  go_ret
  exact ⟨rfl, rfl⟩
set_option maxHeartbeats 400000 in
theorem refQuota_calls : Calls Try.prog 63 #[.pointer (some ⟨g, 0, none⟩)] w fun e w' => e = .returned (.int .i64 (d.quota : Int)) ∧ w = w' := by
  obtain ⟨v, bd, af, kp, hat, hSg, hSv⟩ := hd
  obtain ⟨c0, c1, c2, c3, c4, c5, c6, c7, c8, fz⟩ := rv_cells hat.1
  clear hat hSg hSv
  go_enter Try.func63, Try.ntmps63
  go_wp2
  go_ret
  exact ⟨rfl, rfl⟩
set_option maxHeartbeats 400000 in
theorem refCounted_calls : Calls Try.prog 66 #[.pointer (some ⟨g, 0, none⟩)] w fun e w' => e = .returned (.int .i64 (d.counted : Int)) ∧ w = w' := by
  obtain ⟨v, bd, af, kp, hat, hSg, hSv⟩ := hd
  obtain ⟨c0, c1, c2, c3, c4, c5, c6, c7, c8, fz⟩ := rv_cells hat.1
  clear hat hSg hSv
  go_enter Try.func66, Try.ntmps66
  go_wp2
  go_ret
  exact ⟨rfl, rfl⟩
end

set_option maxHeartbeats 1000000 in
theorem first_calls (A : Option Addr) (c n : Nat) (l : List UInt8) (w : World) (hl : l.length ≤ 1152921504606846976) (hn : n ≤ l.length) (hn2 : n ≤ 4194304) (hr : Reads w A l) :
    Calls Try.prog 71 #[.slice A l.length c, .int .i64 (n : Int)] w fun e w' => ∃ v, e = .returned v ∧ OwnL 5 w' w.heap.size v (l.take n) ∧ Keeps w w' := by
  have HR := Lib.hid hr
  clear hr
  go_enter Try.func71, Try.ntmps71
  go_wp2
  go_loopw [5, 6] (fun v i wr => ∃ k : Nat, k ≤ n ∧ i = .int .i64 (k : Int) ∧ OwnL 5 wr w.heap.size v (l.take k) ∧ Keeps w wr) (fun _ i _ => n - (intOf i).toNat)
  case atStart => exact ⟨0, Nat.zero_le _, rfl, OwnL.empty _ _ _ _, Keeps.refl w⟩
  case round =>
    obtain ⟨k, hk, rfl, ho, hkw⟩ := hrel
    have HO := Lib.hid ho
    have HK := Lib.hid hkw
    obtain ⟨A1, c1, rfl, _⟩ := ho.form
    clear ho hkw
    by_cases hlt : k < n
    · have hkl : k < l.length := by omega
      obtain ⟨a0, rfl, x1⟩ := (HR.out.below HK.out.below).out k hkl
      have i1 : (0 : Int) ≤ (k : Int) := Int.natCast_nonneg _
      have i2 : (k : Int) < (l.length : Int) := by omega
      have i3 : (k : Int) < (n : Int) := by omega
      obtain ⟨x, hx⟩ : ∃ x, x = l[k]'hkl := ⟨_, rfl⟩
      rw [← hx] at x1
      have hnx : l.take (k + 1) = l.take k ++ [x] := by rw [hx, List.take_succ_eq_append_getElem hkl]
      have hlk : (l.take k).length = k := by rw [List.length_take]; omega
      have HN := Lib.hid hnx
      rw [hlk]
      have HLK := Lib.hid hlk
      have hs := HK.out.size
      clear hx hnx hlk
      go_wp2_with (at_builtin; refine wpList_append_loose w.heap.size rfl _ _ 22 5 rfl Try.underlying22 info_u8 (.slice A1 k c1) (l.take k) [x] rfl ?c0 (some ⟨wr.heap.size, 0, none⟩) 1 rfl ?c1 ?c2 ?c3 ?_)
      case c0 => have h := HO.out; rw [HLK.out] at h; exact h.below ((Below.refl _ wr).alloc (Nat.le_refl _) _)
      case c1 => exact Reads.new wr [x] 5 (0, 0) #[.int .u8 ((x.toNat : Nat) : Int)] rfl
      case c2 => rw [HLK.out]; simp; omega
      case c3 => simp; omega
      intro v1 w1 hown hgr hat
      have hk1 : Keeps w w1 := (HK.out.alloc _).trans' hgr (fun j hj => by
        have h := HO.out
        rw [HLK.out] at h
        exact (h.lt j hj).1)
      have HO1 := Lib.hid hown
      have HK1 := Lib.hid hk1
      clear hown hgr hat hk1 HO HK
      go_wp2
      exact ⟨⟨k + 1, by omega, by go_num, by rw [HN.out]; exact HO1.out, HK1.out⟩, by simp [intOf]; omega⟩
    · have hke : k = n := by omega
      subst hke
      go_wp2
      go_ret
      exact ⟨_, rfl, HO.out, HK.out⟩
end Go.Proofs.Ytnfefjlplipeiab
