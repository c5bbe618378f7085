/-
  The walks of the document's file of bytes: Write, Tail, Read, Cut. Condition: the block stands for the machine.
-/
import Derived.Test.YtnfefjlplipeiabRefDevRest
import Derived.Deep.RegionLaw
import Derived.BigRegion
namespace Go.Proofs.Ytnfefjlplipeiab
open Go.RowKit Go.BigFrame
set_option linter.unusedVariables false
set_option linter.unusedSimpArgs false

set_option maxHeartbeats 1000000 in
theorem refWrite_down (g : Nat) (S : Nat → Prop) (d : Dv) (A : Option Addr) (c n : Nat) (w : World) (hd : RV w S g d) (hdn : d.down = true) :
    Calls Try.prog 51 #[.pointer (some ⟨g, 0, none⟩), .slice A n c] w fun e w' => e = .returned (.int .i64 50) ∧ w = w' := by
  obtain ⟨v, bd, af, kp, hat, _⟩ := hd
  obtain ⟨c0, c1, c2, c3, c4, c5, c6, c7, c8, fz⟩ := rv_cells hat.1
  rw [hdn] at c3
  clear hat
  go_enter Try.func51, Try.ntmps51
  go_wp2
  go_ret
  exact ⟨rfl, rfl⟩

set_option maxHeartbeats 1000000 in
theorem refWrite_full (g : Nat) (S : Nat → Prop) (d : Dv) (A : Option Addr) (c n : Nat) (w : World) (hd : RV w S g d) (hok : d.Ok) (hdn : d.down = false) (hl : 0 < n) (hn : n ≤ 1152921504606846976) (hq : d.quota < d.b.length + n) :
    Calls Try.prog 51 #[.pointer (some ⟨g, 0, none⟩), .slice A n c] w fun e w' => e = .returned (.int .i64 52) ∧ Quiet w w' := by
  obtain ⟨v, bd, af, kp, hat, _⟩ := hd
  obtain ⟨A0, c0, rfl, hlc, _, hcm, _⟩ := hat.2.1.form
  obtain ⟨c0, c1, c2, c3, c4, c5, c6, c7, c8, fz⟩ := rv_cells hat.1
  rw [hdn] at c3
  have hsz := hok.size
  have hl0 : (0 : Int) < (n : Int) := by omega
  have hqq : decide ((d.quota : Int) < (d.b.length : Int) + (n : Int)) = true := by rw [decide_eq_true_eq]; omega
  clear hat
  go_enter Try.func51, Try.ntmps51
  go_wp2_with fail
  go_quiet (fail)
  go_wp2
  go_ret
  exact ⟨rfl, nq, rfl⟩

theorem ref_touch {w w1 : World} {v : Value} {o : Obj} (hgr : (w.drew.alloc o).grownBy w1 (blk v)) : Touch (fun j => blk v = some j) w w1 := (((Touch.refl _ w).drew).alloc o).grown hgr (fun j h _ => h)
theorem ref_obj {w w1 : World} {g : Nat} {v : Value} {bd : Bool} {af kp : Int} {d : Dv} {o : Obj} (h : RvAt w g v bd af kp d) (hgr : (w.drew.alloc o).grownBy w1 (blk v)) : w1.heap[g]? = some (.cells (rvCells v d.quota d.synced d.down bd af kp d.counted d.deeds) 67 (0, 0)) :=
  (ref_touch hgr).obj h.1 (fun e => h.apart e)
theorem ref_end {w w1 : World} {g n m : Nat} {A1 : Option Addr} {v : Value} {bd : Bool} {af kp : Int} {d : Dv} {x : UInt8} {o : Obj} {S : Nat → Prop} (h : RvAt w g v bd af kp d) (hSg : S g) (hSv : ∀ k, blk v = some k → S k)
    (hown : OwnL 5 w1 0 (.slice A1 n m) (d.b ++ [x])) (hgr : (w.drew.alloc o).grownBy w1 (blk v)) (hat : blk (.slice A1 n m) = blk v ∨ blk (.slice A1 n m) = some (w.drew.alloc o).heap.size) :
    RV (w1.setCell ⟨g, 0, none⟩ (.slice A1 n m)) (More S w) g { d with b := d.b ++ [x] } ∧ Touch S w (w1.setCell ⟨g, 0, none⟩ (.slice A1 n m)) := by
  have hg1 := ref_obj h hgr
  refine ⟨RV.of (w := w) ⟨obj_set hg1 0 _, hown.far (p := ⟨g, 0, none⟩) (hown.ne hg1 (by decide)) _, h.2.2⟩ hSg fun k hk => ?_, ((ref_touch hgr).mono fun k _ h => hSv k h).setCell _ _ fun _ => hSg⟩
  rcases hat with e | e
  · exact .inl (hSv k (by rw [← e]; exact hk))
  · rw [e] at hk; injection hk with hk; exact .inr (by simp at hk; omega)

set_option maxRecDepth 100000 in
set_option maxHeartbeats 2000000 in
theorem refWrite_loop (g : Nat) (S : Nat → Prop) (d : Dv) (A : Option Addr) (c : Nat) (l : List UInt8) (w : World) (hd : RV w S g d) (hok : d.Ok) (hdn : d.down = false) (hl : 0 < l.length) (hq : d.b.length + l.length ≤ d.quota) (hr : Reads w A l) (hS : ∀ a, A = some a → l ≠ [] → ¬ S a.block)
    (hdd : d.deeds + l.length ≤ 9223372036854775806) :
    Calls Try.prog 51 #[.pointer (some ⟨g, 0, none⟩), .slice A l.length c] w fun e w' => e = .returned (.int .i64 (d.put l).2) ∧ RV w' (More S w) g (d.put l).1 ∧ Touch S w w' := by
  have HD := Lib.hid hd
  obtain ⟨v, bd, af, kp, hat, hSg, hSv⟩ := hd
  obtain ⟨A0, cap0, rfl, hlc, _, hcm, _⟩ := hat.2.1.form
  obtain ⟨c0, c1, c2, c3, c4, c5, c6, c7, c8, fz⟩ := rv_cells hat.1
  rw [hdn] at c3
  have hquo := hok.quota
  have hl0 : (0 : Int) < (l.length : Int) := by omega
  have hqq : decide ((d.quota : Int) < (d.b.length : Int) + (l.length : Int)) = false := by rw [decide_eq_false_iff_not]; omega
  have HOK := Lib.hid hok
  have HR := Lib.hid hr
  have HSA := Lib.hid hS
  clear hat hok hr hdn hSg hSv hS
  go_enter Try.func51, Try.ntmps51
  go_wp2_with fail
  go_quiet (fail)
  go_wp2
  have hd0 : RV (w.drewN nq) S g d := HD.out
  have HD0 := Lib.hid hd0
  have HT0 := Lib.hid ((Touch.refl S w).drewN nq)
  clear hd0 c0 c1 c2 c3 c4 c5 c6 c7 c8 fz
  go_loopw [5] (fun i wr => ∃ (k : Nat) (dk : Dv), k ≤ l.length ∧ i = .int .i64 (k : Int) ∧ RV wr (More S w) g dk ∧ Touch S w wr ∧ dk.Ok ∧ dk.b.length = d.b.length + k ∧ dk.deeds = d.deeds + k ∧ d.put l = dk.put (l.drop k)) (fun i _ => l.length - (intOf i).toNat)
  case atStart => exact ⟨0, d, Nat.zero_le _, rfl, HD0.out.mono fun _ _ h => .inl h, HT0.out, HOK.out, rfl, rfl, rfl⟩
  case round =>
    obtain ⟨k, dk, hk, rfl, hdk, htk, hokk, hbk, hddk, hput⟩ := hrel
    have HDK := Lib.hid hdk
    have HTK := Lib.hid htk
    have HOKK := Lib.hid hokk
    have HBK := Lib.hid hbk
    have HDDK := Lib.hid hddk
    have HPUT := Lib.hid hput
    clear hdk htk hokk hbk hddk hput HD0 HT0 HD HOK
    by_cases hlt : k < l.length
    · have i1 : (0 : Int) ≤ (k : Int) := Int.natCast_nonneg _
      have i2 : (k : Int) < (l.length : Int) := by omega
      obtain ⟨x, hx⟩ : ∃ x, x = l[k]'hlt := ⟨_, rfl⟩
      have hdrop : l.drop k = x :: l.drop (k + 1) := by rw [hx]; exact List.drop_eq_getElem_cons hlt
      obtain ⟨a0, ea, _⟩ := HR.out.out k hlt
      subst ea
      have HDR := Lib.hid hdrop
      have HX := Lib.hid hx
      clear hdrop hx
      go_wp2_with fail
      refine (refDeed_calls g _ dk wr HDK.out HOKK.out (by rw [HDDK.out]; omega)).mono ?_
      rintro e w3 ⟨rfl, hd3, ht3⟩
      have hs := HTK.out.size
      have hd3' : RV w3 (More S w) g dk.deed.1 := hd3.mono fun j _ h => by
        rcases h with h | h
        · exact h
        · exact .inr (Nat.le_trans hs h)
      have ht3' : Touch S w w3 := HTK.out.trans ht3 fun j hj h => by
        rcases h with h | h
        · exact h
        · omega
      have hs3 := ht3'.size
      have HT3 := Lib.hid ht3'
      clear hd3 ht3 ht3' HDK
      cases hdd2 : dk.deed.2 with
      | false =>
        have HD3 := Lib.hid hd3'
        have HDD2 := Lib.hid hdd2
        clear hd3' hdd2
        go_wp2
        go_ret
        rw [HPUT.out, HDR.out, Dv.put_no HDD2.out]
        exact ⟨rfl, HD3.out, HT3.out⟩
      | true =>
        have hyes := Dv.deed_yes hdd2
        have HY := Lib.hid hyes
        have HDD2 := Lib.hid hdd2
        obtain ⟨v3, bd3, af3, kp3, hat3, hSg3, hSv3⟩ := hd3'
        obtain ⟨A3, cap3, rfl, _⟩ := hat3.2.1.form
        obtain ⟨c0, c1, c2, c3, c4, c5, c6, c7, c8, fz⟩ := rv_cells hat3.1
        have hlen3 : dk.deed.1.b.length ≤ 2097152 := by rw [hyes.1]; exact HOKK.out.size
        have hg3 := obj_lt hat3.1
        obtain ⟨a1, ea, x1⟩ := (HT3.out.reads HR.out HSA.out).out k hlt
        cases ea
        rw [← HX.out] at x1
        have hx3 := World.block_lt_of_cell? _ _ x1
        rw [addr_add_block] at hx3
        have HAT3 := Lib.hid hat3
        have HSG3 := Lib.hid hSg3
        have HSV3 := Lib.hid hSv3
        clear hat3 hSg3 hSv3 hdd2 hyes
        go_wp2_with fail
        go_region_law ((refine step_append_loose 0 (by rfl) _ _ 22 5 (by rfl) Try.underlying22 info_u8 (.slice A3 dk.deed.1.b.length cap3) dk.deed.1.b [x] (by rfl) (HAT3.out.2.1.below ((Below.refl w3.heap.size w3).drew.alloc (Nat.le_refl _) _)) (some ⟨w3.heap.size, 0, none⟩) 1 (by rfl) (Reads.new_at _ [x] 5 (0, 0) #[.int .u8 ((x.toNat : Nat) : Int)] rfl _ rfl) (by simp; omega) (Nat.zero_le _) ?_; intro v1 w4 hown hgrow hat; obtain ⟨d0, d1, d2, d3, d4, d5, d6, d7, d8, dz⟩ := rv_cells (ref_obj HAT3.out hgrow); obtain ⟨A1, m1, rfl, hm1⟩ := hown.form; clear hm1))
        all_goals
          rw [show (dk.deed.1.b ++ [x]).length = dk.deed.1.b.length + 1 by simp] at hown hat
          obtain ⟨r1, r2⟩ := ref_end (S := More S w) HAT3.out HSG3.out HSV3.out hown hgrow hat
          have R1 := Lib.hid r1
          have R2 := Lib.hid r2
          clear hown hat hgrow r1 r2 d0 d1 d2 d3 d4 d5 d6 d7 d8 dz c0 c1 c2 c3 c4 c5 c6 c7 c8 fz
          go_wp2
          refine ⟨⟨k + 1, { dk.deed.1 with b := dk.deed.1.b ++ [x] }, by omega, by go_num, ?_, ?_, ?_, ?_, ?_, ?_⟩, by simp [intOf]; omega⟩
          · exact R1.out.mono fun j _ h => by
              rcases h with h | h
              · exact h
              · exact .inr (Nat.le_trans hs3 h)
          · exact HT3.out.trans R2.out fun j hj h => by
              rcases h with h | h
              · exact h
              · omega
          · obtain ⟨k1, k2, k3, k4⟩ := Dv.deed_ok HOKK.out
            have h1 := HOKK.out.synced
            have h2 := HBK.out
            obtain ⟨y1, y2, y3, y4⟩ := HY.out
            exact ⟨by simp only [List.length_append]; omega, by simp only [List.length_append, List.length_singleton]; rw [y1]; omega, k3, k4⟩
          · simp only [List.length_append, List.length_singleton]; rw [HY.out.1, HBK.out]; omega
          · simp only; rw [HY.out.2.2.1, HDDK.out]; omega
          · rw [HPUT.out, HDR.out, Dv.put_yes HDD2.out, HY.out.1]
    · go_wp2
      go_ret
      have hk' : k = l.length := by omega
      have hp := HPUT.out
      rw [hk', List.drop_length] at hp
      rw [hp]
      exact ⟨rfl, HDK.out, HTK.out⟩
end Go.Proofs.Ytnfefjlplipeiab
