/-
  The walk of Cut. Condition: the block stands for the machine.
-/
import Derived.Test.YtnfefjlplipeiabDevRest
namespace Go.Proofs.Ytnfefjlplipeiab
open Go.RowKit Go.BigFrame
set_option linter.unusedVariables false
set_option linter.unusedSimpArgs false

set_option maxHeartbeats 2000000 in
theorem cut1_calls (p q g : Nat) (v bp does : Value) (d : Dv) (n : Nat) (w : World) (hd : DvAt w g v bp does d) (hpo : w.heap[p]? = some (.cells #[.pointer (some ⟨g, 0, none⟩)] 34 (0, 0))) (hqo : w.cell? ⟨q, 0, none⟩ = some (.int .i64 (n : Int))) (hqg : q ≠ g) (hn : n ≤ d.b.length) (hs : d.synced ≤ 9223372036854775807) :
    Calls Try.prog 49 #[.pointer (some ⟨p, 0, none⟩), .pointer (some ⟨q, 0, none⟩)] w fun e w' => e = .returned (.tuple #[]) ∧ ∃ v', DvAt w' g v' bp does { d with b := d.b.take n, synced := min d.synced n } ∧ (blk v' = blk v ∨ ∃ k, blk v' = some k ∧ w.heap.size ≤ k) ∧ Touch (fun j => j = g ∨ blk v = some j) w w' := by
  obtain ⟨A, c, rfl, hlc, _, hcm, _⟩ := hd.2.1.form
  obtain ⟨c0, c1, c2, c3, c4, c5, c6, c7, fz⟩ := dv_cells hd.1
  have hpg : p ≠ g := fun e => by
    subst e
    rw [hd.1] at hpo
    injection hpo with h1
    injection h1 with h2 h3 h4
    revert h3
    decide
  have hp : w.cell? ⟨p, 0, none⟩ = some (.pointer (some ⟨g, 0, none⟩)) := by rw [obj_cell hpo]; rfl
  have hnc : n ≤ c := by omega
  have hmin : min (d.synced : Int) (n : Int) = ((min d.synced n : Nat) : Int) := by omega
  have HAT := Lib.hid hd
  have HN := Lib.hid hn
  clear hd hpo hn
  go_enter Try.func49, Try.ntmps49
  go_wp2
  go_region
  go_wp2
  go_region
  go_wp2
  go_end0
  have hT : Touch (At g) w (((w.setCell ⟨g, 0, none⟩ (.slice A n c)).drew).setCell ⟨g, 2, none⟩ (.int .i64 ((min d.synced n : Nat) : Int))).drew := (((Touch.refl (At g) w).set 0 _).drew.set 2 _).drew
  have hne := HAT.out.apart
  refine ⟨rfl, .slice A n c, ⟨obj_set (obj_set HAT.out.1 0 (.slice A n c)) 2 (.int .i64 ((min d.synced n : Nat) : Int)), ?_, ?_⟩, .inl ?_, hT.mono fun _ _ h => .inl h⟩
  · exact (OwnL.prefix HAT.out.2.1 HN.out).keep hT (fun k hk e => hne.1 (by rw [show k = g from e] at hk; cases A <;> exact hk))
  · exact HAT.out.2.2.keep hT fun k hk e => (hne.2 k hk).1 e
  · cases A <;> rfl

set_option maxRecDepth 100000 in
set_option maxHeartbeats 2000000 in
theorem devCut_calls (g : Nat) (S : Nat → Prop) (d : Dv) (n : Int) (w : World) (hd : DV w S g d) (hok : d.Ok) (hdd : d.deeds ≤ 9223372036854775806) :
    Calls Try.prog 30 #[.pointer (some ⟨g, 0, none⟩), .int .i64 n] w fun e w' => e = .returned (.int .i64 (d.cut n).2) ∧ DV w' (More S w) g (d.cut n).1 ∧ Touch S w w' := by
  have HD := Lib.hid hd
  obtain ⟨v, bp, does, hat, hSg, hSv, hSb, rfl⟩ := hd
  obtain ⟨A, c, rfl, hlc, _, hcm, _⟩ := hat.2.1.form
  obtain ⟨c0, c1, c2, c3, c4, c5, c6, c7, fz⟩ := dv_cells hat.1
  have hgs := obj_lt hat.1
  have hsz := hok.size
  have hmf : ∀ (fn : Fn) (first cap : Array Value) (w : World), (Instr.makeFunc fn first cap).run Try.prog w = .ok (.func fn first cap) w := fun _ _ _ _ => rfl
  have HAT := Lib.hid hat
  have HOK := Lib.hid hok
  clear hat hSg hSv hSb hok
  have quietly : ∀ (e : Ending) (w' : World) (x : Int), e = .returned (.int .i64 x) → Below w.heap.size w w' → e = .returned (.int .i64 x) ∧ DV w' (More S w) g d ∧ Touch S w w' := fun e w' x h hb => ⟨h, HD.out.same hb, Touch.of_below hb fun k hk hb => absurd hk (by omega)⟩
  have HQ := Lib.hid quietly
  clear quietly
  cases hdn : d.down with
  | true =>
    rw [hdn] at c3
    have e1 : d.cut n = (d, 50) := by unfold Dv.cut; rw [if_pos hdn]
    rw [e1]
    clear e1 hdn
    go_enter Try.func30, Try.ntmps30
    go_wp2
    go_ret
    exact HQ.out _ _ _ rfl (((Below.refl _ w).alloc (Nat.le_refl _) _).alloc (by simp) _)
  | false =>
    rw [hdn] at c3
    by_cases h0 : n < 0 ∨ (d.b.length : Int) < n
    · have e1 : d.cut n = (d, 7) := by unfold Dv.cut; rw [if_neg (by rw [hdn]; decide), if_pos h0]
      rw [e1]
      clear e1 hdn
      by_cases h1 : n < 0
      · have h3 : decide (n < 0) = true := decide_eq_true h1
        clear h0
        go_enter Try.func30, Try.ntmps30
        go_wp2_with fail
        go_quiet (fail)
        go_wp2
        go_ret
        exact HQ.out _ _ _ rfl (below_drewN (((Below.refl _ w).alloc (Nat.le_refl _) _).alloc (by simp) _) _)
      · have h2 : (d.b.length : Int) < n := by omega
        have h3 : decide (n < 0) = false := decide_eq_false h1
        have h4 : decide ((d.b.length : Int) < n) = true := decide_eq_true h2
        clear h0
        go_enter Try.func30, Try.ntmps30
        go_wp2_with fail
        go_quiet (fail)
        go_wp2
        go_ret
        exact HQ.out _ _ _ rfl (below_drewN (((Below.refl _ w).alloc (Nat.le_refl _) _).alloc (by simp) _) _)
    · obtain ⟨m, rfl⟩ := Int.eq_ofNat_of_zero_le (show 0 ≤ n by omega)
      have hm : m ≤ d.b.length := by omega
      have h1 : ¬ (m : Int) < 0 := by omega
      have h2 : ¬ (d.b.length : Int) < (m : Int) := by omega
      have e1 : d.cut (m : Int) = match d.deed with
        | (d', false) => (d', 51)
        | (d', true) => ({ d' with b := d'.b.take m, synced := min d'.synced m }, 0) := by unfold Dv.cut; rw [if_neg (by rw [hdn]; decide), if_neg h0]; rfl
      have e2 : d.cut (m : Int) = (if d.deed.2 then { d.deed.1 with b := d.b.take m, synced := min d.synced m } else d.deed.1, if d.deed.2 then 0 else 51) := by
        rw [e1]
        cases hx : d.deed.2 with
        | true =>
          have hy := Dv.deed_yes hx
          obtain ⟨d', h'⟩ : ∃ d', d.deed = (d', true) := ⟨d.deed.1, by rw [← hx]⟩
          rw [h'] at hy ⊢
          simp only at hy
          simp only [if_true, hy.1, hy.2.1]
        | false =>
          obtain ⟨d', h'⟩ : ∃ d', d.deed = (d', false) := ⟨d.deed.1, by rw [← hx]⟩
          rw [h']
          simp
      obtain ⟨r, hr⟩ : ∃ r : Int, (if d.deed.2 then (0 : Int) else 51) = r := ⟨_, rfl⟩
      obtain ⟨d2, h2d⟩ : ∃ d2, (if d.deed.2 then { d.deed.1 with b := d.b.take m, synced := min d.synced m } else d.deed.1) = d2 := ⟨_, rfl⟩
      rw [e2, hr, h2d]
      have HR := Lib.hid hr
      have HD2 := Lib.hid h2d
      clear e1 e2 hdn h0 hr h2d
      go_enter Try.func30, Try.ntmps30
      go_wp2_with fail
      go_quiet (fail)
      go_wp2_with fail
      have hpw : (((w.alloc (.cells #[.pointer (some ⟨g, 0, none⟩)] 34)).alloc (.cells #[.int .i64 (m : Int)] 3)).drewN nq).heap[w.heap.size]? = some (.cells #[.pointer (some ⟨g, 0, none⟩)] 34 (0, 0)) := obj_old (obj_new _ _) _
      have hqw : (((w.alloc (.cells #[.pointer (some ⟨g, 0, none⟩)] 34)).alloc (.cells #[.int .i64 (m : Int)] 3)).drewN nq).cell? ⟨w.heap.size + 1, 0, none⟩ = some (.int .i64 (m : Int)) := by
        rw [World.cell?_drewN, obj_cell (obj_new_at _ _ _ (by simp))]; rfl
      have hb1 : Below w.heap.size w (((w.alloc (.cells #[.pointer (some ⟨g, 0, none⟩)] 34)).alloc (.cells #[.int .i64 (m : Int)] 3)).drewN nq) := below_drewN (((Below.refl _ w).alloc (Nat.le_refl _) _).alloc (by simp) _) _
      refine (deed_calls _ _ (fun wx => run_callFunc_body (P := Try.prog) Try.func49 (by kernel_rfl) (by kernel_rfl) _ wx) g (fun j => S j ∧ j < w.heap.size) d { d.deed.1 with b := d.b.take m, synced := min d.synced m } _ (HD.out.here.below hb1) HOK.out hdd (fun ht v2 bp2 does2 w2 hat2 hSg2 _ _ ht2 => ?_)).mono ?_
      · have hyes := Dv.deed_yes ht
        have := cut1_calls w.heap.size (w.heap.size + 1) g v2 bp2 does2 d.deed.1 m w2 hat2 (ht2.obj hpw (fun h => by have := h.2; omega)) (ht2.cell hqw (fun h => by have := h.2; simp only at this; omega)) (by omega) (by rw [hyes.1]; exact hm) (by rw [hyes.2.1]; have := HOK.out.synced; omega)
        rw [hyes.1, hyes.2.1] at this
        exact this
      · rintro e w3 ⟨he, hd3, ht3⟩
        rw [HR.out] at he
        rw [HD2.out] at hd3
        subst he
        go_wp2
        go_ret
        refine ⟨rfl, hd3.mono fun j _ h => ?_, (Touch.of_below hb1 fun k hk hb => absurd hk (by omega)).trans ht3 fun j _ h => h.1⟩
        rcases h with h | h
        · exact .inl h.1
        · exact .inr (Nat.le_trans hb1.size h)
end Go.Proofs.Ytnfefjlplipeiab
