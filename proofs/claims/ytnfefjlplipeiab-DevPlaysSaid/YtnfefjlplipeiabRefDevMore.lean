/-
  The walks of the document's file of bytes: Write whole, Tail, Cut, Read. Condition: the block stands for the machine.
-/
import Derived.Test.YtnfefjlplipeiabRefDevLoops
namespace Go.Proofs.Ytnfefjlplipeiab
open Go.RowKit Go.BigFrame
set_option linter.unusedVariables false
set_option linter.unusedSimpArgs false

set_option maxHeartbeats 1000000 in
theorem refWrite_none (g : Nat) (S : Nat → Prop) (d : Dv) (A : Option Addr) (c : Nat) (w : World) (hd : RV w S g d) (hdn : d.down = false) :
    Calls Try.prog 51 #[.pointer (some ⟨g, 0, none⟩), .slice A 0 c] w fun e w' => e = .returned (.int .i64 0) ∧ Quiet w w' := by
  obtain ⟨v, bd, af, kp, hat, _⟩ := hd
  obtain ⟨c0, c1, c2, c3, c4, c5, c6, c7, c8, fz⟩ := rv_cells hat.1
  rw [hdn] at c3
  have hl0 : decide ((0 : Int) < 0) = false := by decide
  clear hat
  go_enter Try.func51, Try.ntmps51
  go_wp2_with fail
  go_quiet (fail)
  go_wp2
  go_loopw [5] (fun i wr => i = .int .i64 0 ∧ Quiet w wr) (fun i _ => 0)
  case atStart => exact ⟨rfl, nq, rfl⟩
  case round =>
    obtain ⟨rfl, hb⟩ := hrel
    go_wp2
    go_ret
    exact ⟨rfl, hb⟩
theorem refWrite_calls (g : Nat) (S : Nat → Prop) (d : Dv) (A : Option Addr) (c : Nat) (l : List UInt8) (w : World) (hd : RV w S g d) (hok : d.Ok) (hr : Reads w A l) (hS : ∀ a, A = some a → l ≠ [] → ¬ S a.block) (hl : l.length ≤ 1152921504606846976)
    (hdd : d.deeds + l.length ≤ 9223372036854775806) :
    Calls Try.prog 51 #[.pointer (some ⟨g, 0, none⟩), .slice A l.length c] w fun e w' => e = .returned (.int .i64 (d.write l).2) ∧ RV w' (More S w) g (d.write l).1 ∧ Touch S w w' := by
  have quietly : ∀ {e : Ending} {w' : World} {v : Int}, (e = .returned (.int .i64 v) ∧ Quiet w w') → e = .returned (.int .i64 v) ∧ RV w' (More S w) g d ∧ Touch S w w' := fun h => ⟨h.1, hd.same (h.2.below _), (Touch.refl S w).quiet h.2⟩
  cases hdn : d.down with
  | true =>
    rw [show d.write l = (d, 50) by unfold Dv.write; rw [if_pos hdn]]
    exact (refWrite_down g S d A c l.length w hd hdn).mono fun _ _ h => quietly ⟨h.1, h.2 ▸ Quiet.refl w⟩
  | false =>
    by_cases h0 : 0 < l.length
    · by_cases hq : d.quota < d.b.length + l.length
      · rw [show d.write l = (d, 52) by unfold Dv.write; rw [if_neg (by rw [hdn]; decide), if_pos ⟨h0, hq⟩]]
        exact (refWrite_full g S d A c l.length w hd hok hdn h0 hl hq).mono fun _ _ h => quietly h
      · rw [show d.write l = d.put l by unfold Dv.write; rw [if_neg (by rw [hdn]; decide), if_neg (fun h => hq h.2)]]
        exact refWrite_loop g S d A c l w hd hok hdn h0 (by omega) hr hS hdd
    · have hl0 : l = [] := List.eq_nil_of_length_eq_zero (by omega)
      subst hl0
      rw [show d.write [] = (d, 0) by unfold Dv.write; rw [if_neg (by rw [hdn]; decide), if_neg (fun h => h0 h.1)]; rfl]
      exact (refWrite_none g S d A c w hd hdn).mono fun _ _ h => quietly h

set_option maxHeartbeats 1000000 in
theorem refTail_long (g : Nat) (S : Nat → Prop) (d : Dv) (A : Option Addr) (c n : Nat) (w : World) (hd : RV w S g d) (hok : d.Ok) (hl : n ≤ 1152921504606846976) (hn : 2097152 < d.b.length + n) :
    Calls Try.prog 58 #[.pointer (some ⟨g, 0, none⟩), .slice A n c] w fun e w' => e = .returned (.int .i64 2) ∧ Quiet w w' := by
  obtain ⟨v, bd, af, kp, hat, _⟩ := hd
  have hsz := hok.size
  obtain ⟨A0, cap, rfl, hlc, hr0, _⟩ := hat.2.1.form
  obtain ⟨c0, c1, c2, c3, c4, c5, c6, c7, c8, fz⟩ := rv_cells hat.1
  have hn' : (2097152 : Int) < (d.b.length : Int) + (n : Int) := by omega
  clear hat hr0
  go_enter Try.func58, Try.ntmps58
  go_wp2
  go_ret
  exact ⟨rfl, Quiet.refl w⟩

set_option maxRecDepth 100000 in
set_option maxHeartbeats 2000000 in
theorem refTail_fits (g : Nat) (S : Nat → Prop) (d : Dv) (A : Option Addr) (c : Nat) (l : List UInt8) (w : World) (hd : RV w S g d) (hok : d.Ok) (hr : Reads w A l) (hS : ∀ a, A = some a → l ≠ [] → ¬ S a.block) (hn : d.b.length + l.length ≤ 2097152) :
    Calls Try.prog 58 #[.pointer (some ⟨g, 0, none⟩), .slice A l.length c] w fun e w' => e = .returned (.int .i64 0) ∧ RV w' (More S w) g { d with b := d.b ++ l, synced := d.b.length + l.length } ∧ Touch S w w' := by
  have HD := Lib.hid hd
  obtain ⟨v, bd, af, kp, hat, hSg, hSv⟩ := hd
  obtain ⟨A0, cap0, rfl, hlc, _, hcm, _⟩ := hat.2.1.form
  obtain ⟨c0, c1, c2, c3, c4, c5, c6, c7, c8, fz⟩ := rv_cells hat.1
  have hn' : ¬ (2097152 : Int) < (d.b.length : Int) + (l.length : Int) := by omega
  have hn2 : ¬ 2097152 < d.b.length + l.length := by omega
  have HOK := Lib.hid hok
  have HR := Lib.hid hr
  have HSA := Lib.hid hS
  clear hat hok hr hSg hSv hS
  go_enter Try.func58, Try.ntmps58
  go_wp2
  have HT0 := Lib.hid (Touch.refl S w)
  clear c0 c1 c2 c3 c4 c5 c6 c7 c8 fz
  go_loopw [5] (fun i wr => ∃ (k : Nat), k ≤ l.length ∧ i = .int .i64 (k : Int) ∧ RV wr (More S w) g { d with b := d.b ++ l.take k } ∧ Touch S w wr) (fun i _ => l.length - (intOf i).toNat)
  case atStart => exact ⟨0, Nat.zero_le _, rfl, by rw [List.take_zero, List.append_nil]; exact HD.out.mono fun _ _ h => .inl h, HT0.out⟩
  case round =>
    obtain ⟨k, hk, rfl, hdk, htk⟩ := hrel
    obtain ⟨dk, hdke⟩ : ∃ dk : Dv, dk = { d with b := d.b ++ l.take k } := ⟨_, rfl⟩
    rw [← hdke] at hdk
    have hlen3 : dk.b.length = d.b.length + k := by rw [hdke]; simp only [List.length_append, List.length_take]; omega
    have HTK := Lib.hid htk
    have HDE := Lib.hid hdke
    have HL3 := Lib.hid hlen3
    have hl3 : dk.b.length ≤ 2097152 := by omega
    have hs3 := htk.size
    obtain ⟨v3, bd3, af3, kp3, hat3, hSg3, hSv3⟩ := hdk
    obtain ⟨A3, cap3, rfl, _⟩ := hat3.2.1.form
    obtain ⟨c0, c1, c2, c3, c4, c5, c6, c7, c8, fz⟩ := rv_cells hat3.1
    have hg3 := obj_lt hat3.1
    have HAT3 := Lib.hid hat3
    have HSG3 := Lib.hid hSg3
    have HSV3 := Lib.hid hSv3
    clear hat3 hSg3 hSv3 htk hdke hlen3 HT0 HD
    by_cases hlt : k < l.length
    · have i1 : (0 : Int) ≤ (k : Int) := Int.natCast_nonneg _
      have i2 : (k : Int) < (l.length : Int) := by omega
      obtain ⟨x, hx⟩ : ∃ x, x = l[k]'hlt := ⟨_, rfl⟩
      have hnx : l.take (k + 1) = l.take k ++ [x] := by rw [hx, List.take_succ_eq_append_getElem hlt]
      obtain ⟨a0, ea, x1⟩ := (HTK.out.reads HR.out HSA.out).out k hlt
      subst ea
      rw [← hx] at x1
      have hx3 := World.block_lt_of_cell? _ _ x1
      rw [addr_add_block] at hx3
      have HNX := Lib.hid hnx
      clear hnx hx
      go_wp2_with fail
      go_region_law ((refine step_append_loose 0 (by rfl) _ _ 22 5 (by rfl) Try.underlying22 info_u8 (.slice A3 dk.b.length cap3) dk.b [x] (by rfl) (HAT3.out.2.1.below ((Below.refl wr.heap.size wr).drew.alloc (Nat.le_refl _) _)) (some ⟨wr.heap.size, 0, none⟩) 1 (by rfl) (Reads.new_at _ [x] 5 (0, 0) #[.int .u8 ((x.toNat : Nat) : Int)] rfl _ rfl) (by simp; omega) (Nat.zero_le _) ?_; intro v1 w4 hown hgrow hat; obtain ⟨d0, d1, d2, d3, d4, d5, d6, d7, d8, dz⟩ := rv_cells (ref_obj HAT3.out hgrow); obtain ⟨A1, m1, rfl, hm1⟩ := hown.form; clear hm1))
      all_goals
        rw [show (dk.b ++ [x]).length = dk.b.length + 1 by simp] at hown hat
        obtain ⟨r1, r2⟩ := ref_end (S := More S w) HAT3.out HSG3.out HSV3.out hown hgrow hat
        have R1 := Lib.hid r1
        have R2 := Lib.hid r2
        clear hown hat hgrow r1 r2 d0 d1 d2 d3 d4 d5 d6 d7 d8 dz c0 c1 c2 c3 c4 c5 c6 c7 c8 fz
        go_wp2
        refine ⟨⟨k + 1, by omega, by go_num, ?_, ?_⟩, by simp [intOf]; omega⟩
        · have e : ({ dk with b := dk.b ++ [x] } : Dv) = { d with b := d.b ++ l.take (k + 1) } := by rw [HDE.out, HNX.out]; simp
          have h := R1.out
          rw [e] at h
          exact h.mono fun j _ h => by
            rcases h with h | h
            · exact h
            · exact .inr (Nat.le_trans hs3 h)
        · exact HTK.out.trans R2.out fun j hj h => by
            rcases h with h | h
            · exact h
            · omega
    · have hk' : k = l.length := by omega
      go_wp2
      go_ret
      have e := HDE.out
      rw [hk', List.take_length] at e
      have hl2 : dk.b.length = d.b.length + l.length := by rw [HL3.out, hk']
      have h := HAT3.out.poke (bd' := bd3) (af' := af3) (kp' := kp3) (d' := { d with b := d.b ++ l, synced := d.b.length + l.length }) 2 (.int .i64 (dk.b.length : Int)) (by rw [← hl2, e]; rfl) (by rw [e]) (by have := HAT3.out.2.2; rw [e] at this; exact this)
      exact ⟨rfl, ⟨_, bd3, af3, kp3, h, HSG3.out, HSV3.out⟩, HTK.out.trans ((Touch.refl (More S w) wr).setCell ⟨g, 2, none⟩ _ fun _ => HSG3.out) fun j hj h => by
        rcases h with h | h
        · exact h
        · omega⟩
theorem refTail_calls (g : Nat) (S : Nat → Prop) (d : Dv) (A : Option Addr) (c : Nat) (l : List UInt8) (w : World) (hd : RV w S g d) (hok : d.Ok) (hl : l.length ≤ 1152921504606846976) (hr : Reads w A l) (hS : ∀ a, A = some a → l ≠ [] → ¬ S a.block) :
    Calls Try.prog 58 #[.pointer (some ⟨g, 0, none⟩), .slice A l.length c] w fun e w' => e = .returned (.int .i64 (d.tail l).2) ∧ RV w' (More S w) g (d.tail l).1 ∧ Touch S w w' := by
  by_cases h : 2097152 < d.b.length + l.length
  · rw [show d.tail l = (d, 2) by unfold Dv.tail; rw [if_pos h]]
    exact (refTail_long g S d A c l.length w hd hok hl h).mono fun _ _ ⟨he, hq⟩ => ⟨he, hd.same (hq.below _), (Touch.refl S w).quiet hq⟩
  · rw [show d.tail l = ({ d with b := d.b ++ l, synced := d.b.length + l.length }, 0) by unfold Dv.tail; rw [if_neg h]]
    exact refTail_fits g S d A c l w hd hok hr hS (by omega)

set_option maxRecDepth 100000 in
set_option maxHeartbeats 2000000 in
theorem refCut_calls (g : Nat) (S : Nat → Prop) (d : Dv) (n : Int) (w : World) (hd : RV w S g d) (hok : d.Ok) (hdd : d.deeds ≤ 9223372036854775806) :
    Calls Try.prog 53 #[.pointer (some ⟨g, 0, none⟩), .int .i64 n] w fun e w' => e = .returned (.int .i64 (d.cut n).2) ∧ RV w' (More S w) g (d.cut n).1 ∧ Touch S w w' := by
  have HD := Lib.hid hd
  obtain ⟨v, bd, af, kp, hat, hSg, hSv⟩ := hd
  obtain ⟨A, c, rfl, hlc, _, hcm, _⟩ := hat.2.1.form
  obtain ⟨c0, c1, c2, c3, c4, c5, c6, c7, c8, fz⟩ := rv_cells hat.1
  have hsz := hok.size
  have HOK := Lib.hid hok
  clear hat hSg hSv hok
  rw [cut_eq]
  have HQ := Lib.hid (show ∀ (e : Ending) (w' : World) (x : Int), e = .returned (.int .i64 x) → Quiet w w' → e = .returned (.int .i64 x) ∧ RV w' (More S w) g d ∧ Touch S w w' from fun e w' x h hq => ⟨h, HD.out.same (hq.below _), (Touch.refl S w).quiet hq⟩)
  cases hdn : d.down with
  | true =>
    rw [hdn] at c3
    rw [if_pos rfl]
    clear hdn
    go_enter Try.func53, Try.ntmps53
    go_wp2
    go_ret
    exact HQ.out _ _ _ rfl (Quiet.refl w)
  | false =>
    rw [hdn] at c3
    rw [if_neg (by decide)]
    clear hdn
    by_cases h0 : n < 0 ∨ (d.b.length : Int) < n
    · rw [if_pos h0]
      by_cases h1 : n < 0
      · clear h0
        go_enter Try.func53, Try.ntmps53
        go_wp2
        go_ret
        exact HQ.out _ _ _ rfl (Quiet.refl w)
      · have h2 : (d.b.length : Int) < n := by omega
        clear h0
        go_enter Try.func53, Try.ntmps53
        go_wp2
        go_ret
        exact HQ.out _ _ _ rfl (Quiet.refl w)
    · rw [if_neg h0]
      obtain ⟨m, rfl⟩ := Int.eq_ofNat_of_zero_le (show 0 ≤ n by omega)
      have hm : m ≤ d.b.length := by omega
      have h1 : ¬ (m : Int) < 0 := by omega
      have h2 : ¬ (d.b.length : Int) < (m : Int) := by omega
      rw [show ((m : Int)).toNat = m from rfl]
      clear h0
      cases hx : d.deed.2 with
      | false =>
        have HX := Lib.hid hx
        clear hx
        simp only [Bool.false_eq_true, if_false]
        go_enter Try.func53, Try.ntmps53
        go_wp2_with fail
        refine (refDeed_calls g S d w HD.out HOK.out hdd).mono ?_
        rintro e w3 ⟨rfl, hd3, ht3⟩
        rw [HX.out]
        go_wp2
        go_ret
        exact ⟨rfl, hd3, ht3⟩
      | true =>
        have hyes := Dv.deed_yes hx
        have HX := Lib.hid hx
        have HY := Lib.hid hyes
        clear hx
        simp only [if_true]
        obtain ⟨dc, hdc⟩ : ∃ dc : Dv, dc = { d.deed.1 with b := d.b.take m, synced := min d.synced m } := ⟨_, rfl⟩
        rw [← hdc]
        have HDC := Lib.hid hdc
        clear hdc
        go_enter Try.func53, Try.ntmps53
        go_wp2_with fail
        refine (refDeed_calls g S d w HD.out HOK.out hdd).mono ?_
        rintro e w3 ⟨rfl, hd3, ht3⟩
        rw [HX.out]
        have hs3 := ht3.size
        obtain ⟨v3, bd3, af3, kp3, hat3, hSg3, hSv3⟩ := hd3
        obtain ⟨A3, cap3, rfl, _, hr3, _⟩ := hat3.2.1.form
        have hl3 : d.deed.1.b.length = d.b.length := by rw [hyes.1]
        rw [hyes.1] at hr3
        rw [hl3] at hat3
        clear c0 c1 c2 c3 c4 c5 c6 c7 c8 fz
        obtain ⟨c0, c1, c2, c3, c4, c5, c6, c7, c8, fz⟩ := rv_cells hat3.1
        have hg3 := obj_lt hat3.1
        have HAT3 := Lib.hid hat3
        have HR3 := Lib.hid hr3
        have HT3 := Lib.hid ht3
        have HSG3 := Lib.hid hSg3
        clear hat3 hr3 ht3 hSg3 hSv3 hyes hl3
        have hsy : d.deed.1.synced = d.synced := HY.out.2.1
        rw [hsy] at c2
        clear hsy
        go_wp2_with fail
        refine (first_calls A3 cap3 m d.b w3 (by omega) hm (by omega) HR3.out).mono ?_
        rintro e w4 ⟨v4, rfl, ho4, hk4⟩
        have hl4 : (d.b.take m).length = m := by rw [List.length_take]; omega
        obtain ⟨A4, cap4, rfl, _⟩ := ho4.form
        rw [hl4] at ho4
        rw [hl4]
        have hg4 := rv_kept hk4 hg3 HAT3.out.1
        obtain ⟨d0, d1, d2, d3, d4, d5, d6, d7, d8, dz⟩ := rv_cells hg4
        have hlow : ∀ j, blk (.slice A4 m cap4) = some j → w3.heap.size ≤ j := fun j hj => (ho4.lt j hj).1
        rw [HY.out.2.1] at d2
        have h0 : RvAt (w4.setCell ⟨g, 0, none⟩ (.slice A4 m cap4)) g (.slice A4 m cap4) bd3 af3 kp3 { d.deed.1 with b := d.b.take m } :=
          ⟨obj_set hg4 0 _, (show OwnL 5 (w4.setCell ⟨g, 0, none⟩ (.slice A4 m cap4)) 0 (.slice A4 m cap4) (d.b.take m) from (ho4.lower 0 (Nat.zero_le _)).far (p := ⟨g, 0, none⟩) (fun e => by have := hlow g e; omega) _), HAT3.out.2.2⟩
        have H0 := Lib.hid h0
        have HLW := Lib.hid hlow
        have HK4 := Lib.hid hk4
        clear h0 hlow hk4 ho4 hl4 hg4 c0 c1 c2 c3 c4 c5 c6 c7 c8 fz
        have hT4 : Touch S w (w4.setCell ⟨g, 0, none⟩ (.slice A4 m cap4)) := (HT3.out.then (Touch.of_below HK4.out.below fun k hk hb => absurd hk (by omega))).setCell _ _ fun h => by
          rcases HSG3.out with h' | h'
          · exact h'
          · simp only at h; omega
        have HT4 := Lib.hid hT4
        clear hT4
        by_cases hms : m < d.synced
        · have h3 : (m : Int) < (d.synced : Int) := by omega
          have e5 : dc = { d.deed.1 with b := d.b.take m, synced := m } := by rw [HDC.out, show min d.synced m = m by omega]
          have HE5 := Lib.hid e5
          clear hms e5
          go_wp2
          go_ret
          rw [HE5.out]
          have h5 := H0.out.poke (bd' := bd3) (af' := af3) (kp' := kp3) (d' := { d.deed.1 with b := d.b.take m, synced := m }) 2 (.int .i64 (m : Int)) (by rfl) rfl H0.out.2.2
          exact ⟨rfl, ⟨_, bd3, af3, kp3, h5, HSG3.out, fun j hj => .inr (Nat.le_trans hs3 (HLW.out j hj))⟩, HT4.out.setCell _ _ fun h => by
            rcases HSG3.out with h' | h'
            · exact h'
            · simp only at h; omega⟩
        · have h3 : ¬ (m : Int) < (d.synced : Int) := by omega
          have e5 : dc = { d.deed.1 with b := d.b.take m } := by
            rw [HDC.out, show min d.synced m = d.deed.1.synced by rw [HY.out.2.1]; omega]
          have HE5 := Lib.hid e5
          clear hms e5
          go_wp2
          go_ret
          rw [HE5.out]
          exact ⟨rfl, ⟨_, bd3, af3, kp3, H0.out, HSG3.out, fun j hj => .inr (Nat.le_trans hs3 (HLW.out j hj))⟩, HT4.out⟩

set_option maxHeartbeats 1000000 in
theorem refRead_out (g : Nat) (S : Nat → Prop) (d : Dv) (a n : Int) (w : World) (hd : RV w S g d) (hok : d.Ok) (h : a < 0 ∨ (d.b.length : Int) < a ∨ n < 0) :
    Calls Try.prog 54 #[.pointer (some ⟨g, 0, none⟩), .int .i64 a, .int .i64 n] w fun e w' => e = .returned (.tuple #[.slice none 0 0, .int .i64 7]) ∧ Quiet w w' := by
  obtain ⟨v, bd, af, kp, hat, _⟩ := hd
  obtain ⟨A0, cap, rfl, hlc, hr0, _⟩ := hat.2.1.form
  obtain ⟨c0, c1, c2, c3, c4, c5, c6, c7, c8, fz⟩ := rv_cells hat.1
  have hsz := hok.size
  clear hat hr0
  by_cases h1 : a < 0
  · clear h
    go_enter Try.func54, Try.ntmps54
    go_wp2
    go_ret2
    exact ⟨rfl, Quiet.refl w⟩
  · by_cases h2 : (d.b.length : Int) < a
    · clear h
      go_enter Try.func54, Try.ntmps54
      go_wp2
      go_ret2
      exact ⟨rfl, Quiet.refl w⟩
    · have h3 : n < 0 := by omega
      clear h
      go_enter Try.func54, Try.ntmps54
      go_wp2
      go_ret2
      exact ⟨rfl, Quiet.refl w⟩

set_option maxRecDepth 100000 in
set_option maxHeartbeats 2000000 in
theorem refRead_in (g : Nat) (S : Nat → Prop) (d : Dv) (a n : Nat) (w : World) (hd : RV w S g d) (hok : d.Ok) (hct : d.counted ≤ 9223372036852678655) (h : a ≤ d.b.length) (hn : n ≤ 9223372036854775807) :
    Calls Try.prog 54 #[.pointer (some ⟨g, 0, none⟩), .int .i64 (a : Int), .int .i64 (n : Int)] w fun e w' => ∃ v, e = .returned (.tuple #[v, .int .i64 0]) ∧ OwnL 5 w' w.heap.size v ((d.b.drop a).take n) ∧ RV w' S g { d with counted := d.counted + ((d.b.drop a).take n).length } ∧ Touch S w w' := by
  have HD := Lib.hid hd
  obtain ⟨v, bd, af, kp, hat, hSg, hSv⟩ := hd
  obtain ⟨A0, cap, rfl, hlc, hr0, _⟩ := hat.2.1.form
  obtain ⟨c0, c1, c2, c3, c4, c5, c6, c7, c8, fz⟩ := rv_cells hat.1
  have hgs := obj_lt hat.1
  have hsz := hok.size
  have h1 : ¬ (a : Int) < 0 := by omega
  have h2 : ¬ (d.b.length : Int) < (a : Int) := by omega
  have h3 : ¬ (n : Int) < 0 := by omega
  have HAT := Lib.hid hat
  have HR := Lib.hid hr0
  have HS := Lib.hid (show S g ∧ ∀ k, blk (.slice A0 d.b.length cap) = some k → S k from ⟨hSg, hSv⟩)
  clear hat hr0 hSg hSv hok
  obtain ⟨m, hm⟩ : ∃ m : Nat, m = min n (d.b.length - a) := ⟨_, rfl⟩
  have htk : (d.b.drop a).take m = (d.b.drop a).take n := by
    rcases Nat.le_total n (d.b.length - a) with h | h
    · rw [hm, Nat.min_eq_left h]
    · rw [hm, Nat.min_eq_right h, List.take_of_length_le (by rw [List.length_drop]; omega), List.take_of_length_le (by rw [List.length_drop]; omega)]
  have hml : ((d.b.drop a).take m).length = m := by rw [List.length_take, List.length_drop]; omega
  rw [← htk, hml]
  have HM := Lib.hid hm
  have HML := Lib.hid hml
  have hm1 : m ≤ n := by omega
  have hm2 : a + m ≤ d.b.length := by omega
  clear hm htk hml
  go_enter Try.func54, Try.ntmps54
  go_wp2
  go_loopw [8, 9] (fun v i wr => ∃ (k p : Nat), k ≤ m ∧ p = a + k ∧ i = .int .i64 (p : Int) ∧ OwnL 5 wr w.heap.size v ((d.b.drop a).take k) ∧ Keeps w wr) (fun _ i _ => a + m - (intOf i).toNat)
  case atStart => exact ⟨0, a, Nat.zero_le _, rfl, rfl, OwnL.empty _ _ _ _, Keeps.refl w⟩
  case round =>
    obtain ⟨k, p, hk, hp, rfl, ho, hkw⟩ := hrel
    have hatr := HAT.out.keep (F := fun _ => False) (Touch.of_below hkw.below fun k hk hb => absurd hk (by omega)) (fun h => h) fun _ _ h => h
    clear c0 c1 c2 c3 c4 c5 c6 c7 c8 fz
    obtain ⟨c0, c1, c2, c3, c4, c5, c6, c7, c8, fz⟩ := rv_cells hatr.1
    have hlk : ((d.b.drop a).take k).length = k := by rw [List.length_take, List.length_drop]; omega
    obtain ⟨A1, cap1, rfl, _⟩ := ho.form
    rw [hlk] at ho ⊢
    have hpk : (a : Int) + (k : Int) = (p : Int) := by omega
    have HO := Lib.hid ho
    have HK := Lib.hid hkw
    have HATR := Lib.hid hatr
    have HP := Lib.hid hp
    have HLK := Lib.hid hlk
    have hgr := obj_lt hatr.1
    clear ho hkw hatr hp hlk
    by_cases hlt : k < m
    · have hpl : p < d.b.length := by have := HP.out; omega
      have i1 : (0 : Int) ≤ (p : Int) := Int.natCast_nonneg _
      have i2 : (p : Int) < (d.b.length : Int) := by omega
      have i3 : (p : Int) - (a : Int) < (n : Int) := by omega
      obtain ⟨a0, rfl, x1⟩ := (HR.out.below HK.out.below).out p hpl
      obtain ⟨x, hx⟩ : ∃ x, x = d.b[p]'hpl := ⟨_, rfl⟩
      rw [← hx] at x1
      have hnx : (d.b.drop a).take (k + 1) = (d.b.drop a).take k ++ [x] := by
        rw [List.take_succ_eq_append_getElem (by rw [List.length_drop]; have := HP.out; omega), List.getElem_drop, hx]
        congr 2
        have := HP.out
        subst this
        rfl
      have HNX := Lib.hid hnx
      have hsw := HK.out.size
      clear hx hnx
      go_wp2_with (at_builtin; refine wpList_append_loose w.heap.size rfl _ _ 22 5 rfl Try.underlying22 info_u8 (.slice A1 k cap1) ((d.b.drop a).take k) [x] rfl ?c0 (some ⟨wr.heap.size, 0, none⟩) 1 rfl ?c1 ?c2 ?c3 ?_)
      case c0 => exact HO.out.below ((Below.refl _ wr).alloc (Nat.le_refl _) _)
      case c1 => exact Reads.new wr [x] 5 (0, 0) #[.int .u8 ((x.toNat : Nat) : Int)] rfl
      case c2 => rw [HLK.out]; simp; omega
      case c3 => simp; omega
      intro v1 w1 hown hgr1 hat1
      have hk1 : Keeps w w1 := (HK.out.alloc _).trans' hgr1 (fun j hj => (HO.out.lt j hj).1)
      have HO1 := Lib.hid hown
      have HK1 := Lib.hid hk1
      clear hown hgr1 hat1 hk1 HO HK
      go_wp2
      exact ⟨⟨k + 1, p + 1, by omega, by have := HP.out; omega, by go_num, by rw [HNX.out]; exact HO1.out, HK1.out⟩, by simp [intOf]; have := HP.out; omega⟩
    · have hkm : k = m := by omega
      have hend : ∀ (A1 : Option Addr) (cap1 : Nat), OwnL 5 wr w.heap.size (.slice A1 k cap1) ((d.b.drop a).take k) → ∃ v, Ending.returned (.tuple #[.slice A1 k cap1, .int .i64 0]) = .returned (.tuple #[v, .int .i64 0]) ∧ OwnL 5 (wr.setCell ⟨g, 7, none⟩ (.int .i64 ((d.counted : Int) + (k : Int)))) w.heap.size v ((d.b.drop a).take m) ∧ RV (wr.setCell ⟨g, 7, none⟩ (.int .i64 ((d.counted : Int) + (k : Int)))) S g { d with counted := d.counted + m } ∧ Touch S w (wr.setCell ⟨g, 7, none⟩ (.int .i64 ((d.counted : Int) + (k : Int)))) := by
        intro A1 cap1 ho
        rw [← hkm]
        have h5 := HATR.out.poke (bd' := bd) (af' := af) (kp' := kp) (d' := { d with counted := d.counted + k }) 7 (.int .i64 ((d.counted : Int) + (k : Int))) (by rfl) rfl HATR.out.2.2
        exact ⟨_, rfl, ho.far (p := ⟨g, 7, none⟩) (fun hb => by have := (ho.lt g hb).1; omega) _, ⟨_, bd, af, kp, h5, HS.out.1, HS.out.2⟩, (Touch.of_below HK.out.below fun k hk hb => absurd hk (by omega)).setCell _ _ fun _ => HS.out.1⟩
      have HE := Lib.hid hend
      clear hend
      by_cases hpl : p < d.b.length
      · have i2 : (p : Int) < (d.b.length : Int) := by omega
        have hkn : k = n := by have h1 := HM.out; have h2 := HP.out; omega
        have i3 : ¬ (p : Int) - (a : Int) < (n : Int) := by omega
        have hkc : k ≤ 2097152 := by omega
        clear hkm hkn
        go_wp2
        go_ret2
        exact HE.out A1 cap1 HO.out
      · have i2 : ¬ (p : Int) < (d.b.length : Int) := by omega
        have hkc : k ≤ 2097152 := by omega
        clear hkm
        go_wp2
        go_ret2
        exact HE.out A1 cap1 HO.out

theorem refRead_calls (g : Nat) (S : Nat → Prop) (d : Dv) (a n : Int) (w : World) (hd : RV w S g d) (hok : d.Ok) (hct : d.counted ≤ 9223372036852678655) (hn : n ≤ 9223372036854775807) :
    Calls Try.prog 54 #[.pointer (some ⟨g, 0, none⟩), .int .i64 a, .int .i64 n] w fun e w' => ∃ v, e = .returned (.tuple #[v, .int .i64 (d.read a n).2.2]) ∧ OwnL 5 w' w.heap.size v (d.read a n).2.1 ∧ RV w' S g (d.read a n).1 ∧ Touch S w w' := by
  by_cases h : a < 0 ∨ (d.b.length : Int) < a ∨ n < 0
  · rw [show d.read a n = (d, [], 7) by unfold Dv.read; rw [if_pos h]]
    exact (refRead_out g S d a n w hd hok h).mono fun _ _ ⟨he, hq⟩ => ⟨_, he, OwnL.empty _ _ _ none, hd.below (hq.below _), (Touch.refl S w).quiet hq⟩
  · obtain ⟨a', rfl⟩ := Int.eq_ofNat_of_zero_le (show 0 ≤ a by omega)
    obtain ⟨n', rfl⟩ := Int.eq_ofNat_of_zero_le (show 0 ≤ n by omega)
    rw [show d.read (a' : Int) (n' : Int) = ({ d with counted := d.counted + ((d.b.drop a').take n').length }, (d.b.drop a').take n', 0) by unfold Dv.read; rw [if_neg h]; rfl]
    exact refRead_in g S d a' n' w hd hok hct (by omega) (by omega)
end Go.Proofs.Ytnfefjlplipeiab
