/-
  The walk of Write's closure. Condition: the block stands for the machine.
-/
import Derived.Test.YtnfefjlplipeiabDevObj
import Derived.Deep.RegionLaw
import Derived.BigRegion
namespace Go.Proofs.Ytnfefjlplipeiab
open Go.RowKit
set_option linter.unusedVariables false
set_option linter.unusedSimpArgs false

theorem put_touch {w w1 : World} {v : Value} {o : Obj} (hgr : (w.drew.alloc o).grownBy w1 (blk v)) : Touch (fun j => blk v = some j) w w1 := (((Touch.refl _ w).drew).alloc o).grown hgr (fun j h _ => h)
theorem put_obj {w w1 : World} {v : Value} {l : List UInt8} {g : Nat} {C : Array Value} {o : Obj} (ho : OwnL 5 w 0 v l) (hg : w.heap[g]? = some (.cells C 62 (0, 0))) (hgr : (w.drew.alloc o).grownBy w1 (blk v)) : w1.heap[g]? = some (.cells C 62 (0, 0)) :=
  (put_touch hgr).obj hg (ho.ne hg (by decide))

theorem put_end {w w1 : World} {g n m : Nat} {A1 : Option Addr} {v bp does : Value} {d : Dv} {c : UInt8} {o : Obj} (hg : w.heap[g]? = some (.cells (dvCells v d.quota d.synced d.down bp d.counted d.deeds does) 62 (0, 0))) (ho : OwnL 5 w 0 v d.b) (hbp : BoundAt w bp d.bound)
    (hown : OwnL 5 w1 0 (.slice A1 n m) (d.b ++ [c])) (hgr : (w.drew.alloc o).grownBy w1 (blk v)) (hat : blk (.slice A1 n m) = blk v ∨ blk (.slice A1 n m) = some (w.drew.alloc o).heap.size) :
    ∃ v', DvAt (w1.setCell ⟨g, 0, none⟩ (.slice A1 n m)) g v' bp does { d with b := d.b ++ [c] } ∧ (blk v' = blk v ∨ ∃ k, blk v' = some k ∧ w.heap.size ≤ k) ∧ Touch (fun j => j = g ∨ blk v = some j) w (w1.setCell ⟨g, 0, none⟩ (.slice A1 n m)) := by
  have hg1 := put_obj ho hg hgr
  have ht := put_touch hgr
  have hb1 : BoundAt w1 bp d.bound := by
    cases hd : d.bound with
    | none => rw [hd] at hbp; exact hbp
    | some x =>
      rw [hd] at hbp
      obtain ⟨f, rfl, hf⟩ := hbp
      exact ⟨f, rfl, ht.obj hf (ho.ne hf (by decide))⟩
  have ht2 : Touch (fun j => j = g ∨ blk v = some j) w (w1.setCell ⟨g, 0, none⟩ (.slice A1 n m)) := (ht.mono fun _ _ h => Or.inr h).setCell _ _ (fun _ => .inl rfl)
  refine ⟨.slice A1 n m, ⟨obj_set hg1 0 _, hown.far (p := ⟨g, 0, none⟩) (hown.ne hg1 (by decide)) _, ?_⟩, ?_, ht2⟩
  · refine hb1.keep ((Touch.refl (At g) w1).set 0 _) fun k hk e => ?_
    cases hd : d.bound with
    | none => rw [hd] at hb1; rw [hb1] at hk; simp [bpBlock] at hk
    | some x =>
      rw [hd] at hb1
      obtain ⟨f, rfl, hf⟩ := hb1
      simp only [bpBlock, Option.some.injEq] at hk
      cases e
      subst hk
      rw [hg1] at hf
      injection hf with h1
      injection h1 with h2 h3 h4
      revert h3
      decide
  · rcases hat with h | h
    · exact .inl h
    · exact .inr ⟨_, h, by simp⟩

set_option maxHeartbeats 1000000 in
theorem put1_calls (p q g : Nat) (v bp does : Value) (d : Dv) (c : UInt8) (w : World) (hd : DvAt w g v bp does d) (hpo : w.heap[p]? = some (.cells #[.pointer (some ⟨g, 0, none⟩)] 34 (0, 0))) (hq : w.cell? ⟨q, 0, none⟩ = some (.int .u8 ((c.toNat : Nat) : Int))) (hl : d.b.length ≤ 4194304) :
    Calls Try.prog 47 #[.pointer (some ⟨p, 0, none⟩), .pointer (some ⟨q, 0, none⟩)] w fun e w' => e = .returned (.tuple #[]) ∧ ∃ v', DvAt w' g v' bp does { d with b := d.b ++ [c] } ∧ (blk v' = blk v ∨ ∃ k, blk v' = some k ∧ w.heap.size ≤ k) ∧ Touch (fun j => j = g ∨ blk v = some j) w w' := by
  obtain ⟨hg, ho, hbp⟩ := hd
  obtain ⟨c0, c1, c2, c3, c4, c5, c6, c7, fz⟩ := dv_cells hg
  have hgs := obj_lt hg
  have hp : w.cell? ⟨p, 0, none⟩ = some (.pointer (some ⟨g, 0, none⟩)) := by rw [obj_cell hpo]; rfl
  have hps := World.block_lt_of_cell? _ _ hp
  have HNP := Lib.hid (show ¬ blk v = some p from ho.ne hpo (by decide))
  have hqs := World.block_lt_of_cell? _ _ hq
  simp only at hps hqs
  have HG := Lib.hid hg
  have HO := Lib.hid ho
  have HBP := Lib.hid hbp
  clear hg ho hbp hpo
  go_enter Try.func47, Try.ntmps47
  go_wp2_with fail
  go_region_law ((refine step_append_loose 0 (by rfl) _ _ 22 5 (by rfl) Try.underlying22 info_u8 v d.b [c] (by rfl) (HO.out.below ((Below.refl w.heap.size w).drew.alloc (Nat.le_refl _) _)) (some ⟨w.heap.size, 0, none⟩) 1 (by rfl) (Reads.new_at _ [c] 5 (0, 0) #[.int .u8 ((c.toNat : Nat) : Int)] rfl _ rfl) (by simp; omega) (Nat.zero_le _) ?_; intro v1 w1 hown hgrow hat; have hp1 := (put_touch hgrow).cell hp HNP.out; obtain ⟨d0, d1, d2, d3, d4, d5, d6, d7, dz⟩ := dv_cells (put_obj HO.out HG.out hgrow); obtain ⟨A1, m1, rfl, hm1⟩ := hown.form; clear hm1))
  all_goals (go_wp2; go_end0; rw [show (d.b ++ [c]).length = d.b.length + 1 by simp] at hown hat; exact ⟨rfl, put_end HG.out HO.out HBP.out hown hgrow hat⟩)
end Go.Proofs.Ytnfefjlplipeiab
