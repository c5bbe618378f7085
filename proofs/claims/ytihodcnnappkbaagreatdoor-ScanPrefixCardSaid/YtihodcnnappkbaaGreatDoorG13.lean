/-
  The document's file of bytes in memory: its block, its row. Condition: the block stands for the machine. The walks of the document's file of bytes: deed, Write, Sync, Cut. Condition: the block stands for the machine. The walks of the document's file of bytes: New, Sync, Fail, Start, Damage, All, Cut. Condition: the block stands for the machine. The walks of the document's file of bytes: Write, Tail, Read, Cut. Condition: the block stands for the machine. The walks of the document's file of bytes: Write whole, Tail, Cut, Read. Condition: the block stands for the machine. Two files that stand for the same machine, in blocks that lie apart. No condition.
-/
import Derived.Test.YtihodcnnappkbaaGreatDoorG12
import Derived.StillTailTactics
import Derived.Deep.RegionLaw
import Derived.BigRegion
namespace Go.Proofs.YtihodcnnappkbaaGreatDoor
open Go.RowKit
set_option linter.unusedVariables false
set_option linter.unusedSimpArgs false
def rvCells (v : Value) (q s : Int) (dn bd : Bool) (af kp td dd : Int) : Array Value := #[v, .int .i64 q, .int .i64 s, .bool dn, .bool bd, .int .i64 af, .int .i64 kp, .int .i64 td, .int .i64 dd]
def BoundIs (bd : Bool) (af kp : Int) : Option (Nat × Nat) → Prop
  | none => bd = false
  | some (a, k) => bd = true ∧ af = a ∧ kp = k
def RvAt (w : World) (g : Nat) (v : Value) (bd : Bool) (af kp : Int) (d : Dv) : Prop :=
  w.heap[g]? = some (.cells (rvCells v d.quota d.synced d.down bd af kp d.counted d.deeds) 115 (0, 0)) ∧ OwnL 5 w 0 v d.b ∧ BoundIs bd af kp d.bound
theorem rv_cells {w : World} {g : Nat} {v : Value} {q s af kp td dd : Int} {dn bd : Bool} (hg : w.heap[g]? = some (.cells (rvCells v q s dn bd af kp td dd) 115 (0, 0))) :
    w.cell? ⟨g, 0, none⟩ = some v ∧ w.cell? ⟨g, 1, none⟩ = some (.int .i64 q) ∧ w.cell? ⟨g, 2, none⟩ = some (.int .i64 s) ∧ w.cell? ⟨g, 3, none⟩ = some (.bool dn) ∧ w.cell? ⟨g, 4, none⟩ = some (.bool bd) ∧ w.cell? ⟨g, 5, none⟩ = some (.int .i64 af) ∧ w.cell? ⟨g, 6, none⟩ = some (.int .i64 kp) ∧ w.cell? ⟨g, 7, none⟩ = some (.int .i64 td) ∧ w.cell? ⟨g, 8, none⟩ = some (.int .i64 dd) ∧ ∀ i, w.frozen? ⟨g, i, none⟩ = false :=
  ⟨by rw [obj_cell hg]; rfl, by rw [obj_cell hg]; rfl, by rw [obj_cell hg]; rfl, by rw [obj_cell hg]; rfl, by rw [obj_cell hg]; rfl, by rw [obj_cell hg]; rfl, by rw [obj_cell hg]; rfl, by rw [obj_cell hg]; rfl, by rw [obj_cell hg]; rfl, obj_frozen hg⟩
def RV (w : World) (S : Nat → Prop) (g : Nat) (d : Dv) : Prop :=
  ∃ v bd af kp, RvAt w g v bd af kp d ∧ S g ∧ ∀ k, blk v = some k → S k
theorem RvAt.apart {w : World} {g : Nat} {v : Value} {bd : Bool} {af kp : Int} {d : Dv} (h : RvAt w g v bd af kp d) : blk v ≠ some g := h.2.1.ne h.1 (by decide)
theorem RvAt.keep {F : Nat → Prop} {w w' : World} {g : Nat} {v : Value} {bd : Bool} {af kp : Int} {d : Dv} (h : RvAt w g v bd af kp d) (ht : Touch F w w') (hg : ¬ F g) (hv : ∀ k, blk v = some k → ¬ F k) : RvAt w' g v bd af kp d :=
  ⟨ht.obj h.1 hg, h.2.1.keep ht hv, h.2.2⟩
theorem RvAt.poke {w : World} {g : Nat} {v : Value} {bd bd' : Bool} {af kp af' kp' : Int} {d d' : Dv} (h : RvAt w g v bd af kp d) (i : Nat) (u : Value) (hc : (rvCells v d.quota d.synced d.down bd af kp d.counted d.deeds).setIfInBounds i u = rvCells v d'.quota d'.synced d'.down bd' af' kp' d'.counted d'.deeds) (hb : d'.b = d.b) (hbd : BoundIs bd' af' kp' d'.bound) :
    RvAt (w.setCell ⟨g, i, none⟩ u) g v bd' af' kp' d' :=
  ⟨by rw [← hc]; exact obj_set h.1 i u, by rw [hb]; exact h.2.1.far (p := ⟨g, i, none⟩) h.apart _, hbd⟩
theorem RV.mono {w : World} {S T : Nat → Prop} {g : Nat} {d : Dv} (h : RV w S g d) (hS : ∀ k, k < w.heap.size → S k → T k) : RV w T g d := by
  obtain ⟨v, bd, af, kp, hat, h1, h2⟩ := h
  exact ⟨v, bd, af, kp, hat, hS g (obj_lt hat.1) h1, fun k hk => hS k (hat.2.1.lt k hk).2 (h2 k hk)⟩
theorem RV.self {w : World} {S : Nat → Prop} {g : Nat} {d : Dv} (h : RV w S g d) : S g := by
  obtain ⟨v, bd, af, kp, hat, h1, h2⟩ := h
  exact h1
theorem RV.lt {w : World} {S : Nat → Prop} {g : Nat} {d : Dv} (h : RV w S g d) : g < w.heap.size := by
  obtain ⟨v, bd, af, kp, hat, h1, h2⟩ := h
  exact obj_lt hat.1
theorem RV.keep {F S : Nat → Prop} {w w' : World} {g : Nat} {d : Dv} (h : RV w S g d) (ht : Touch F w w') (hF : ∀ k, k < w.heap.size → S k → ¬ F k) : RV w' S g d := by
  obtain ⟨v, bd, af, kp, hat, h1, h2⟩ := h
  exact ⟨v, bd, af, kp, hat.keep ht (hF g (obj_lt hat.1) h1) (fun k hk => hF k (hat.2.1.lt k hk).2 (h2 k hk)), h1, h2⟩
theorem RV.below {S : Nat → Prop} {w w' : World} {g : Nat} {d : Dv} (h : RV w S g d) (hb : Below w.heap.size w w') : RV w' S g d :=
  h.keep (F := fun _ => False) (Touch.of_below hb fun k hk hb => absurd hk (by omega)) fun _ _ _ h => h
theorem RV.here {w : World} {S : Nat → Prop} {g : Nat} {d : Dv} (h : RV w S g d) : RV w (fun k => S k ∧ k < w.heap.size) g d := h.mono fun _ hk hS => ⟨hS, hk⟩
theorem RV.same {S : Nat → Prop} {w w' : World} {g : Nat} {d : Dv} (h : RV w S g d) (hb : Below w.heap.size w w') : RV w' (More S w) g d := (h.below hb).mono fun _ _ h => .inl h
section
variable (g : Nat) (S : Nat → Prop) (d : Dv) (w : World) (hd : RV w S g d)
include hd
set_option maxRecDepth 20000 in
set_option maxHeartbeats 400000 in
theorem refLen_calls : Calls Tryz.prog 64 #[.pointer (some ⟨g, 0, none⟩)] w fun e w' => e = .returned (.int .i64 (d.b.length : Int)) ∧ w = w' := by
  obtain ⟨v, bd, af, kp, hat, hSg, hSv⟩ := hd
  obtain ⟨A, c, rfl, _⟩ := hat.2.1.form
  obtain ⟨c0, c1, c2, c3, c4, c5, c6, c7, c8, fz⟩ := rv_cells hat.1
  clear hat hSg hSv
  go_enter Tryz.func64, Tryz.ntmps64
  go_wp2
  go_ret
  exact ⟨rfl, rfl⟩
set_option maxRecDepth 20000 in
set_option maxHeartbeats 400000 in
theorem refUp_calls : Calls Tryz.prog 63 #[.pointer (some ⟨g, 0, none⟩)] w fun e w' => e = .returned (.bool (!d.down)) ∧ w = w' := by
  obtain ⟨v, bd, af, kp, hat, hSg, hSv⟩ := hd
  obtain ⟨c0, c1, c2, c3, c4, c5, c6, c7, c8, fz⟩ := rv_cells hat.1
  clear hat hSg hSv
  go_enter Tryz.func63, Tryz.ntmps63
  go_wp2
  go_ret
  exact ⟨rfl, rfl⟩
set_option maxRecDepth 20000 in
set_option maxHeartbeats 400000 in
theorem refCounted_calls : Calls Tryz.prog 21 #[.pointer (some ⟨g, 0, none⟩)] w fun e w' => e = .returned (.int .i64 (d.counted : Int)) ∧ w = w' := by
  obtain ⟨v, bd, af, kp, hat, hSg, hSv⟩ := hd
  obtain ⟨c0, c1, c2, c3, c4, c5, c6, c7, c8, fz⟩ := rv_cells hat.1
  clear hat hSg hSv
  go_enter Tryz.func21, Tryz.ntmps21
  go_wp2
  go_ret
  exact ⟨rfl, rfl⟩
end
end Go.Proofs.YtihodcnnappkbaaGreatDoor
namespace Go.Proofs.YtihodcnnappkbaaGreatDoor
open Go.RowKit Go.BigFrame
set_option linter.unusedVariables false
set_option linter.unusedSimpArgs false
theorem RV.of {w w' : World} {S : Nat → Prop} {g : Nat} {v' : Value} {bd : Bool} {af kp : Int} {d' : Dv} (h : RvAt w' g v' bd af kp d') (hS : S g) (hv : ∀ k, blk v' = some k → S k ∨ w.heap.size ≤ k) : RV w' (More S w) g d' :=
  ⟨v', bd, af, kp, h, .inl hS, hv⟩
set_option maxRecDepth 20000 in
set_option maxHeartbeats 400000 in
theorem refNew_yes (q : Nat) (w : World) (h : q ≤ 1048576) :
    Calls Tryz.prog 55 #[.int .i64 (q : Int)] w fun e w' => e = .returned (.tuple #[.pointer (some ⟨w.heap.size, 0, none⟩), .int .i64 0]) ∧ RV w' (fun j => w.heap.size ≤ j) w.heap.size (Dv.fresh q) ∧ Keeps w w' := by
  have h0 : ¬ (q : Int) < 0 := by omega
  have h1 : ¬ (1048576 : Int) < (q : Int) := by omega
  go_enter Tryz.func55, Tryz.ntmps55
  go_wp2
  go_ret2
  refine ⟨rfl, ⟨.slice none 0 0, false, 0, 0, ⟨obj_new w _, OwnL.empty _ _ _ _, rfl⟩, Nat.le_refl _, ?_⟩, (Keeps.refl w).alloc _⟩
  intro k hk; rw [blk_empty] at hk; cases hk
theorem ref_touch {w w1 : World} {v : Value} {o : Obj} (hgr : (w.drew.alloc o).grownBy w1 (blk v)) : Touch (fun j => blk v = some j) w w1 := (((Touch.refl _ w).drew).alloc o).grown hgr (fun j h _ => h)
theorem ref_obj {w w1 : World} {g : Nat} {v : Value} {bd : Bool} {af kp : Int} {d : Dv} {o : Obj} (h : RvAt w g v bd af kp d) (hgr : (w.drew.alloc o).grownBy w1 (blk v)) : w1.heap[g]? = some (.cells (rvCells v d.quota d.synced d.down bd af kp d.counted d.deeds) 115 (0, 0)) :=
  (ref_touch hgr).obj h.1 (fun e => h.apart e)
theorem ref_end {w w1 : World} {g n m : Nat} {A1 : Option Addr} {v : Value} {bd : Bool} {af kp : Int} {d : Dv} {x : UInt8} {o : Obj} {S : Nat → Prop} (h : RvAt w g v bd af kp d) (hSg : S g) (hSv : ∀ k, blk v = some k → S k)
    (hown : OwnL 5 w1 0 (.slice A1 n m) (d.b ++ [x])) (hgr : (w.drew.alloc o).grownBy w1 (blk v)) (hat : blk (.slice A1 n m) = blk v ∨ blk (.slice A1 n m) = some (w.drew.alloc o).heap.size) :
    RV (w1.setCell ⟨g, 0, none⟩ (.slice A1 n m)) (More S w) g { d with b := d.b ++ [x] } ∧ Touch S w (w1.setCell ⟨g, 0, none⟩ (.slice A1 n m)) := by
  have hg1 := ref_obj h hgr
  refine ⟨RV.of (w := w) ⟨obj_set hg1 0 _, hown.far (p := ⟨g, 0, none⟩) (hown.ne hg1 (by decide)) _, h.2.2⟩ hSg fun k hk => ?_, ((ref_touch hgr).mono fun k _ h => hSv k h).setCell _ _ fun _ => hSg⟩
  rcases hat with e | e
  · exact .inl (hSv k (by rw [← e]; exact hk))
  · rw [e] at hk; injection hk with hk; exact .inr (by simp at hk; omega)
set_option maxRecDepth 20000 in
set_option maxHeartbeats 1000000 in
theorem refTail_long (g : Nat) (S : Nat → Prop) (d : Dv) (A : Option Addr) (c n : Nat) (w : World) (hd : RV w S g d) (hok : d.Ok) (hl : n ≤ 1152921504606846976) (hn : 2097152 < d.b.length + n) :
    Calls Tryz.prog 57 #[.pointer (some ⟨g, 0, none⟩), .slice A n c] w fun e w' => e = .returned (.int .i64 2) ∧ Quiet w w' := by
  obtain ⟨v, bd, af, kp, hat, _⟩ := hd
  have hsz := hok.size
  obtain ⟨A0, cap, rfl, hlc, hr0, _⟩ := hat.2.1.form
  obtain ⟨c0, c1, c2, c3, c4, c5, c6, c7, c8, fz⟩ := rv_cells hat.1
  have hn' : (2097152 : Int) < (d.b.length : Int) + (n : Int) := by omega
  clear hat hr0
  go_enter Tryz.func57, Tryz.ntmps57
  go_wp2
  go_ret
  exact ⟨rfl, Quiet.refl w⟩
set_option maxRecDepth 100000 in
set_option maxRecDepth 20000 in
set_option maxHeartbeats 2000000 in
theorem refTail_fits (g : Nat) (S : Nat → Prop) (d : Dv) (A : Option Addr) (c : Nat) (l : List UInt8) (w : World) (hd : RV w S g d) (hok : d.Ok) (hr : Reads w A l) (hS : ∀ a, A = some a → l ≠ [] → ¬ S a.block) (hn : d.b.length + l.length ≤ 2097152) :
    Calls Tryz.prog 57 #[.pointer (some ⟨g, 0, none⟩), .slice A l.length c] w fun e w' => e = .returned (.int .i64 0) ∧ RV w' (More S w) g { d with b := d.b ++ l, synced := d.b.length + l.length } ∧ Touch S w w' := by
  have HD := Lib.hid hd
  obtain ⟨v, bd, af, kp, hat, hSg, hSv⟩ := hd
  obtain ⟨A0, cap0, rfl, hlc, _, hcm, _⟩ := hat.2.1.form
  obtain ⟨c0, c1, c2, c3, c4, c5, c6, c7, c8, fz⟩ := rv_cells hat.1
  have hn' : ¬ (2097152 : Int) < (d.b.length : Int) + (l.length : Int) := by omega
  have hn2 : ¬ 2097152 < d.b.length + l.length := by omega
  have HOK := Lib.hid hok
  have HR := Lib.hid hr
  have HSA := Lib.hid hS
  clear hat hok hr hSg hSv hS
  go_enter Tryz.func57, Tryz.ntmps57
  go_wp2
  have HT0 := Lib.hid (Touch.refl S w)
  clear c0 c1 c2 c3 c4 c5 c6 c7 c8 fz
  go_loopw [5] (fun i wr => ∃ (k : Nat), k ≤ l.length ∧ i = .int .i64 (k : Int) ∧ RV wr (More S w) g { d with b := d.b ++ l.take k } ∧ Touch S w wr) (fun i _ => l.length - (intOf i).toNat)
  case atStart => exact ⟨0, Nat.zero_le _, rfl, by rw [List.take_zero, List.append_nil]; exact HD.out.mono fun _ _ h => .inl h, HT0.out⟩
  case round =>
    obtain ⟨k, hk, rfl, hdk, htk⟩ := hrel
    obtain ⟨dk, hdke⟩ : ∃ dk : Dv, dk = { d with b := d.b ++ l.take k } := ⟨_, rfl⟩
    rw [← hdke] at hdk
    have hlen3 : dk.b.length = d.b.length + k := by rw [hdke]; simp only [List.length_append, List.length_take]; omega
    have HTK := Lib.hid htk
    have HDE := Lib.hid hdke
    have HL3 := Lib.hid hlen3
    have hl3 : dk.b.length ≤ 2097152 := by omega
    have hs3 := htk.size
    obtain ⟨v3, bd3, af3, kp3, hat3, hSg3, hSv3⟩ := hdk
    obtain ⟨A3, cap3, rfl, _⟩ := hat3.2.1.form
    obtain ⟨c0, c1, c2, c3, c4, c5, c6, c7, c8, fz⟩ := rv_cells hat3.1
    have hg3 := obj_lt hat3.1
    have HAT3 := Lib.hid hat3
    have HSG3 := Lib.hid hSg3
    have HSV3 := Lib.hid hSv3
    clear hat3 hSg3 hSv3 htk hdke hlen3 HT0 HD
    by_cases hlt : k < l.length
    · have i1 : (0 : Int) ≤ (k : Int) := Int.natCast_nonneg _
      have i2 : (k : Int) < (l.length : Int) := by omega
      obtain ⟨x, hx⟩ : ∃ x, x = l[k]'hlt := ⟨_, rfl⟩
      have hnx : l.take (k + 1) = l.take k ++ [x] := by rw [hx, List.take_succ_eq_append_getElem hlt]
      obtain ⟨a0, ea, x1⟩ := (HTK.out.reads HR.out HSA.out).out k hlt
      subst ea
      rw [← hx] at x1
      have hx3 := World.block_lt_of_cell? _ _ x1
      rw [addr_add_block] at hx3
      have HNX := Lib.hid hnx
      clear hnx hx
      go_wp2_with fail
      go_region_law ((refine step_append_loose 0 (by rfl) _ _ 31 5 (by rfl) Tryz.underlying31 info_u8 (.slice A3 dk.b.length cap3) dk.b [x] (by rfl) (HAT3.out.2.1.below ((Below.refl wr.heap.size wr).drew.alloc (Nat.le_refl _) _)) (some ⟨wr.heap.size, 0, none⟩) 1 (by rfl) (Reads.new_at _ [x] 5 (0, 0) #[.int .u8 ((x.toNat : Nat) : Int)] rfl _ rfl) (by simp; omega) (Nat.zero_le _) ?_; intro v1 w4 hown hgrow hat; obtain ⟨d0, d1, d2, d3, d4, d5, d6, d7, d8, dz⟩ := rv_cells (ref_obj HAT3.out hgrow); obtain ⟨A1, m1, rfl, hm1⟩ := hown.form; clear hm1))
      all_goals
        rw [show (dk.b ++ [x]).length = dk.b.length + 1 by simp] at hown hat
        obtain ⟨r1, r2⟩ := ref_end (S := More S w) HAT3.out HSG3.out HSV3.out hown hgrow hat
        have R1 := Lib.hid r1
        have R2 := Lib.hid r2
        clear hown hat hgrow r1 r2 d0 d1 d2 d3 d4 d5 d6 d7 d8 dz c0 c1 c2 c3 c4 c5 c6 c7 c8 fz
        go_wp2
        refine ⟨⟨k + 1, by omega, by go_num, ?_, ?_⟩, by simp [intOf]; omega⟩
        · have e : ({ dk with b := dk.b ++ [x] } : Dv) = { d with b := d.b ++ l.take (k + 1) } := by rw [HDE.out, HNX.out]; simp
          have h := R1.out
          rw [e] at h
          exact h.mono fun j _ h => by
            rcases h with h | h
            · exact h
            · exact .inr (Nat.le_trans hs3 h)
        · exact HTK.out.trans R2.out fun j hj h => by
            rcases h with h | h
            · exact h
            · omega
    · have hk' : k = l.length := by omega
      go_wp2
      go_ret
      have e := HDE.out
      rw [hk', List.take_length] at e
      have hl2 : dk.b.length = d.b.length + l.length := by rw [HL3.out, hk']
      have h := HAT3.out.poke (bd' := bd3) (af' := af3) (kp' := kp3) (d' := { d with b := d.b ++ l, synced := d.b.length + l.length }) 2 (.int .i64 (dk.b.length : Int)) (by rw [← hl2, e]; rfl) (by rw [e]) (by have := HAT3.out.2.2; rw [e] at this; exact this)
      exact ⟨rfl, ⟨_, bd3, af3, kp3, h, HSG3.out, HSV3.out⟩, HTK.out.trans ((Touch.refl (More S w) wr).setCell ⟨g, 2, none⟩ _ fun _ => HSG3.out) fun j hj h => by
        rcases h with h | h
        · exact h
        · omega⟩
theorem refTail_calls (g : Nat) (S : Nat → Prop) (d : Dv) (A : Option Addr) (c : Nat) (l : List UInt8) (w : World) (hd : RV w S g d) (hok : d.Ok) (hl : l.length ≤ 1152921504606846976) (hr : Reads w A l) (hS : ∀ a, A = some a → l ≠ [] → ¬ S a.block) :
    Calls Tryz.prog 57 #[.pointer (some ⟨g, 0, none⟩), .slice A l.length c] w fun e w' => e = .returned (.int .i64 (d.tail l).2) ∧ RV w' (More S w) g (d.tail l).1 ∧ Touch S w w' := by
  by_cases h : 2097152 < d.b.length + l.length
  · rw [show d.tail l = (d, 2) by unfold Dv.tail; rw [if_pos h]]
    exact (refTail_long g S d A c l.length w hd hok hl h).mono fun _ _ ⟨he, hq⟩ => ⟨he, hd.same (hq.below _), (Touch.refl S w).quiet hq⟩
  · rw [show d.tail l = ({ d with b := d.b ++ l, synced := d.b.length + l.length }, 0) by unfold Dv.tail; rw [if_neg h]]
    exact refTail_fits g S d A c l w hd hok hr hS (by omega)
set_option maxRecDepth 20000 in
set_option maxHeartbeats 1000000 in
theorem refRead_out (g : Nat) (S : Nat → Prop) (d : Dv) (a n : Int) (w : World) (hd : RV w S g d) (hok : d.Ok) (h : a < 0 ∨ (d.b.length : Int) < a ∨ n < 0) :
    Calls Tryz.prog 65 #[.pointer (some ⟨g, 0, none⟩), .int .i64 a, .int .i64 n] w fun e w' => e = .returned (.tuple #[.slice none 0 0, .int .i64 7]) ∧ Quiet w w' := by
  obtain ⟨v, bd, af, kp, hat, _⟩ := hd
  obtain ⟨A0, cap, rfl, hlc, hr0, _⟩ := hat.2.1.form
  obtain ⟨c0, c1, c2, c3, c4, c5, c6, c7, c8, fz⟩ := rv_cells hat.1
  have hsz := hok.size
  clear hat hr0
  by_cases h1 : a < 0
  · clear h
    go_enter Tryz.func65, Tryz.ntmps65
    go_wp2
    go_ret2
    exact ⟨rfl, Quiet.refl w⟩
  · by_cases h2 : (d.b.length : Int) < a
    · clear h
      go_enter Tryz.func65, Tryz.ntmps65
      go_wp2
      go_ret2
      exact ⟨rfl, Quiet.refl w⟩
    · have h3 : n < 0 := by omega
      clear h
      go_enter Tryz.func65, Tryz.ntmps65
      go_wp2
      go_ret2
      exact ⟨rfl, Quiet.refl w⟩
set_option maxRecDepth 100000 in
set_option maxRecDepth 20000 in
set_option maxHeartbeats 2000000 in
theorem refRead_in (g : Nat) (S : Nat → Prop) (d : Dv) (a n : Nat) (w : World) (hd : RV w S g d) (hok : d.Ok) (hct : d.counted ≤ 9223372036852678655) (h : a ≤ d.b.length) (hn : n ≤ 9223372036854775807) :
    Calls Tryz.prog 65 #[.pointer (some ⟨g, 0, none⟩), .int .i64 (a : Int), .int .i64 (n : Int)] w fun e w' => ∃ v, e = .returned (.tuple #[v, .int .i64 0]) ∧ OwnL 5 w' w.heap.size v ((d.b.drop a).take n) ∧ RV w' S g { d with counted := d.counted + ((d.b.drop a).take n).length } ∧ Touch S w w' := by
  have HD := Lib.hid hd
  obtain ⟨v, bd, af, kp, hat, hSg, hSv⟩ := hd
  obtain ⟨A0, cap, rfl, hlc, hr0, _⟩ := hat.2.1.form
  obtain ⟨c0, c1, c2, c3, c4, c5, c6, c7, c8, fz⟩ := rv_cells hat.1
  have hgs := obj_lt hat.1
  have hsz := hok.size
  have h1 : ¬ (a : Int) < 0 := by omega
  have h2 : ¬ (d.b.length : Int) < (a : Int) := by omega
  have h3 : ¬ (n : Int) < 0 := by omega
  have HAT := Lib.hid hat
  have HR := Lib.hid hr0
  have HS := Lib.hid (show S g ∧ ∀ k, blk (.slice A0 d.b.length cap) = some k → S k from ⟨hSg, hSv⟩)
  clear hat hr0 hSg hSv hok
  obtain ⟨m, hm⟩ : ∃ m : Nat, m = min n (d.b.length - a) := ⟨_, rfl⟩
  have htk : (d.b.drop a).take m = (d.b.drop a).take n := by
    rcases Nat.le_total n (d.b.length - a) with h | h
    · rw [hm, Nat.min_eq_left h]
    · rw [hm, Nat.min_eq_right h, List.take_of_length_le (by rw [List.length_drop]; omega), List.take_of_length_le (by rw [List.length_drop]; omega)]
  have hml : ((d.b.drop a).take m).length = m := by rw [List.length_take, List.length_drop]; omega
  rw [← htk, hml]
  have HM := Lib.hid hm
  have HML := Lib.hid hml
  have hm1 : m ≤ n := by omega
  have hm2 : a + m ≤ d.b.length := by omega
  clear hm htk hml
  go_enter Tryz.func65, Tryz.ntmps65
  go_wp2
  go_loopw [8, 9] (fun v i wr => ∃ (k p : Nat), k ≤ m ∧ p = a + k ∧ i = .int .i64 (p : Int) ∧ OwnL 5 wr w.heap.size v ((d.b.drop a).take k) ∧ Keeps w wr) (fun _ i _ => a + m - (intOf i).toNat)
  case atStart => exact ⟨0, a, Nat.zero_le _, rfl, rfl, OwnL.empty _ _ _ _, Keeps.refl w⟩
  case round =>
    obtain ⟨k, p, hk, hp, rfl, ho, hkw⟩ := hrel
    have hatr := HAT.out.keep (F := fun _ => False) (Touch.of_below hkw.below fun k hk hb => absurd hk (by omega)) (fun h => h) fun _ _ h => h
    clear c0 c1 c2 c3 c4 c5 c6 c7 c8 fz
    obtain ⟨c0, c1, c2, c3, c4, c5, c6, c7, c8, fz⟩ := rv_cells hatr.1
    have hlk : ((d.b.drop a).take k).length = k := by rw [List.length_take, List.length_drop]; omega
    obtain ⟨A1, cap1, rfl, _⟩ := ho.form
    rw [hlk] at ho ⊢
    have hpk : (a : Int) + (k : Int) = (p : Int) := by omega
    have HO := Lib.hid ho
    have HK := Lib.hid hkw
    have HATR := Lib.hid hatr
    have HP := Lib.hid hp
    have HLK := Lib.hid hlk
    have hgr := obj_lt hatr.1
    clear ho hkw hatr hp hlk
    by_cases hlt : k < m
    · have hpl : p < d.b.length := by have := HP.out; omega
      have i1 : (0 : Int) ≤ (p : Int) := Int.natCast_nonneg _
      have i2 : (p : Int) < (d.b.length : Int) := by omega
      have i3 : (p : Int) - (a : Int) < (n : Int) := by omega
      obtain ⟨a0, rfl, x1⟩ := (HR.out.below HK.out.below).out p hpl
      obtain ⟨x, hx⟩ : ∃ x, x = d.b[p]'hpl := ⟨_, rfl⟩
      rw [← hx] at x1
      have hnx : (d.b.drop a).take (k + 1) = (d.b.drop a).take k ++ [x] := by
        rw [List.take_succ_eq_append_getElem (by rw [List.length_drop]; have := HP.out; omega), List.getElem_drop, hx]
        congr 2
        have := HP.out
        subst this
        rfl
      have HNX := Lib.hid hnx
      have hsw := HK.out.size
      clear hx hnx
      go_wp2_with (at_builtin; refine wpList_append_loose w.heap.size rfl _ _ 31 5 rfl Tryz.underlying31 info_u8 (.slice A1 k cap1) ((d.b.drop a).take k) [x] rfl ?c0 (some ⟨wr.heap.size, 0, none⟩) 1 rfl ?c1 ?c2 ?c3 ?_)
      case c0 => exact HO.out.below ((Below.refl _ wr).alloc (Nat.le_refl _) _)
      case c1 => exact Reads.new wr [x] 5 (0, 0) #[.int .u8 ((x.toNat : Nat) : Int)] rfl
      case c2 => rw [HLK.out]; simp; omega
      case c3 => simp; omega
      intro v1 w1 hown hgr1 hat1
      have hk1 : Keeps w w1 := (HK.out.alloc _).trans' hgr1 (fun j hj => (HO.out.lt j hj).1)
      have HO1 := Lib.hid hown
      have HK1 := Lib.hid hk1
      clear hown hgr1 hat1 hk1 HO HK
      go_wp2
      exact ⟨⟨k + 1, p + 1, by omega, by have := HP.out; omega, by go_num, by rw [HNX.out]; exact HO1.out, HK1.out⟩, by simp [intOf]; have := HP.out; omega⟩
    · have hkm : k = m := by omega
      have hend : ∀ (A1 : Option Addr) (cap1 : Nat), OwnL 5 wr w.heap.size (.slice A1 k cap1) ((d.b.drop a).take k) → ∃ v, Ending.returned (.tuple #[.slice A1 k cap1, .int .i64 0]) = .returned (.tuple #[v, .int .i64 0]) ∧ OwnL 5 (wr.setCell ⟨g, 7, none⟩ (.int .i64 ((d.counted : Int) + (k : Int)))) w.heap.size v ((d.b.drop a).take m) ∧ RV (wr.setCell ⟨g, 7, none⟩ (.int .i64 ((d.counted : Int) + (k : Int)))) S g { d with counted := d.counted + m } ∧ Touch S w (wr.setCell ⟨g, 7, none⟩ (.int .i64 ((d.counted : Int) + (k : Int)))) := by
        intro A1 cap1 ho
        rw [← hkm]
        have h5 := HATR.out.poke (bd' := bd) (af' := af) (kp' := kp) (d' := { d with counted := d.counted + k }) 7 (.int .i64 ((d.counted : Int) + (k : Int))) (by rfl) rfl HATR.out.2.2
        exact ⟨_, rfl, ho.far (p := ⟨g, 7, none⟩) (fun hb => by have := (ho.lt g hb).1; omega) _, ⟨_, bd, af, kp, h5, HS.out.1, HS.out.2⟩, (Touch.of_below HK.out.below fun k hk hb => absurd hk (by omega)).setCell _ _ fun _ => HS.out.1⟩
      have HE := Lib.hid hend
      clear hend
      by_cases hpl : p < d.b.length
      · have i2 : (p : Int) < (d.b.length : Int) := by omega
        have hkn : k = n := by have h1 := HM.out; have h2 := HP.out; omega
        have i3 : ¬ (p : Int) - (a : Int) < (n : Int) := by omega
        have hkc : k ≤ 2097152 := by omega
        clear hkm hkn
        go_wp2
        go_ret2
        exact HE.out A1 cap1 HO.out
      · have i2 : ¬ (p : Int) < (d.b.length : Int) := by omega
        have hkc : k ≤ 2097152 := by omega
        clear hkm
        go_wp2
        go_ret2
        exact HE.out A1 cap1 HO.out
theorem refRead_calls (g : Nat) (S : Nat → Prop) (d : Dv) (a n : Int) (w : World) (hd : RV w S g d) (hok : d.Ok) (hct : d.counted ≤ 9223372036852678655) (hn : n ≤ 9223372036854775807) :
    Calls Tryz.prog 65 #[.pointer (some ⟨g, 0, none⟩), .int .i64 a, .int .i64 n] w fun e w' => ∃ v, e = .returned (.tuple #[v, .int .i64 (d.read a n).2.2]) ∧ OwnL 5 w' w.heap.size v (d.read a n).2.1 ∧ RV w' S g (d.read a n).1 ∧ Touch S w w' := by
  by_cases h : a < 0 ∨ (d.b.length : Int) < a ∨ n < 0
  · rw [show d.read a n = (d, [], 7) by unfold Dv.read; rw [if_pos h]]
    exact (refRead_out g S d a n w hd hok h).mono fun _ _ ⟨he, hq⟩ => ⟨_, he, OwnL.empty _ _ _ none, hd.below (hq.below _), (Touch.refl S w).quiet hq⟩
  · obtain ⟨a', rfl⟩ := Int.eq_ofNat_of_zero_le (show 0 ≤ a by omega)
    obtain ⟨n', rfl⟩ := Int.eq_ofNat_of_zero_le (show 0 ≤ n by omega)
    rw [show d.read (a' : Int) (n' : Int) = ({ d with counted := d.counted + ((d.b.drop a').take n').length }, (d.b.drop a').take n', 0) by unfold Dv.read; rw [if_neg h]; rfl]
    exact refRead_in g S d a' n' w hd hok hct (by omega) (by omega)
def Both (w : World) (T : Nat → Prop) (gd gr : Nat) (x : Dv) : Prop :=
  ∃ S1 S2, DV w S1 gd x ∧ RV w S2 gr x ∧ (∀ k, S1 k → ¬ S2 k) ∧ ∀ k, S1 k ∨ S2 k → T k ∧ k < w.heap.size
theorem Both.keep {w w' : World} {T F : Nat → Prop} {gd gr : Nat} {x : Dv} (h : Both w T gd gr x) (ht : Touch F w w') (hF : ∀ k, k < w.heap.size → T k → ¬ F k) : Both w' T gd gr x := by
  obtain ⟨S1, S2, h1, h2, h3, h4⟩ := h
  exact ⟨S1, S2, h1.keep ht fun k hk hs => hF k hk (h4 k (.inl hs)).1, h2.keep ht fun k hk hs => hF k hk (h4 k (.inr hs)).1, h3, fun k hk => ⟨(h4 k hk).1, Nat.lt_of_lt_of_le (h4 k hk).2 ht.size⟩⟩
theorem Both.below {w w' : World} {T : Nat → Prop} {gd gr : Nat} {x : Dv} (h : Both w T gd gr x) (hb : Below w.heap.size w w') : Both w' T gd gr x :=
  h.keep (F := fun _ => False) (Touch.of_below hb fun k hk hb => absurd hk (by omega)) fun _ _ _ h => h
theorem Both.mono {w : World} {T U : Nat → Prop} {gd gr : Nat} {x : Dv} (h : Both w T gd gr x) (hT : ∀ k, k < w.heap.size → T k → U k) : Both w U gd gr x := by
  obtain ⟨S1, S2, h1, h2, h3, h4⟩ := h
  exact ⟨S1, S2, h1, h2, h3, fun k hk => ⟨hT k (h4 k hk).2 (h4 k hk).1, (h4 k hk).2⟩⟩
theorem Both.step {w w' w'' : World} {T S1 S2 : Nat → Prop} {gd gr : Nat} {x' : Dv} (hd : ∀ k, S1 k → ¬ S2 k) (hT : ∀ k, S1 k ∨ S2 k → T k ∧ k < w.heap.size) (d1 : DV w' (More S1 w) gd x') (t1 : Touch S1 w w') (r1 : RV w'' (More S2 w') gr x') (t2 : Touch S2 w' w'') :
    Both w'' (More T w) gd gr x' ∧ Touch T w w'' := by
  have hs := t1.size
  have hs2 := t2.size
  refine ⟨⟨fun k => More S1 w k ∧ k < w'.heap.size, fun k => More S2 w' k ∧ k < w''.heap.size, ?_, r1.here, ?_, ?_⟩, (t1.mono fun k _ h => (hT k (.inl h)).1).trans t2 fun k hk h => (hT k (.inr h)).1⟩
  · exact d1.here.keep t2 fun k hk h h2 => by
      rcases h.1 with h | h
      · exact hd k h h2
      · have := (hT k (.inr h2)).2; omega
  · rintro k ⟨h1 | h1, h1'⟩ ⟨h2 | h2, h2'⟩
    · exact hd k h1 h2
    · omega
    · have := (hT k (.inr h2)).2; omega
    · omega
  · rintro k (⟨h | h, h'⟩ | ⟨h | h, h'⟩)
    · exact ⟨.inl (hT k (.inl h)).1, by omega⟩
    · exact ⟨.inr h, by omega⟩
    · exact ⟨.inl (hT k (.inr h)).1, by omega⟩
    · exact ⟨.inr (by omega), by omega⟩
theorem More.drop {T : Nat → Prop} {w w1 : World} (hs : w.heap.size ≤ w1.heap.size) {k : Nat} (h : More T w1 k) : More T w k := h.elim .inl fun h => .inr (Nat.le_trans hs h)
end Go.Proofs.YtihodcnnappkbaaGreatDoor
