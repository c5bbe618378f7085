/-
  The walk of the law DevPlays: it returns true, and what was there before is as it was. Condition: the script reads.
-/
import Derived.Test.YtnfefjlplipeiabDevStep2
namespace Go.Proofs.Ytnfefjlplipeiab
open Go.RowKit Go.BigFrame
set_option linter.unusedVariables false
set_option linter.unusedSimpArgs false

theorem play_ok {x : Dv} (h : x.Ok) {o : Op} (hf : o.Fits) : (x.play o).Ok := by
  unfold Dv.play
  split
  · exact read_ok h _ _
  · unfold Dv.keep
    split
    · exact write_ok h _
    split
    · exact sync_ok h
    split
    · exact cut_ok h _
    split
    · exact fail_ok h _ _ hf.n.2 hf.m.2
    split
    · exact start_ok h
    split
    · exact damage_ok h _ _
    split
    · exact tail_ok h _
    · exact h
theorem play_counts {x : Dv} (h : x.Ok) (o : Op) : (x.play o).deeds ≤ x.deeds + 2097152 ∧ (x.play o).counted ≤ x.counted + 2097152 := by
  unfold Dv.play
  split
  · unfold Dv.read
    split
    · exact ⟨by simp, by simp⟩
    · have := h.size
      refine ⟨by simp, ?_⟩
      simp only [List.length_take, List.length_drop]
      omega
  · unfold Dv.keep
    split
    · have := write_counts h o.b
      exact ⟨by omega, by rw [this.2.2]; omega⟩
    split
    · unfold Dv.sync; split <;> exact ⟨by simp, by simp⟩
    split
    · have := cut_counts x o.n
      exact ⟨by omega, by rw [this.2]; omega⟩
    split
    · unfold Dv.fail; split <;> (try split) <;> exact ⟨by simp, by simp⟩
    split
    · unfold Dv.start; split <;> exact ⟨by simp, by simp⟩
    split
    · unfold Dv.damage; split <;> exact ⟨by simp, by simp⟩
    split
    · unfold Dv.tail; split <;> exact ⟨by simp, by simp⟩
    · exact ⟨by simp, by simp⟩

theorem step_calls (gd gr : Nat) (T : Nat → Prop) (x : Dv) (o : Op) (A : Option Addr) (c : Nat) (w : World) (hb : Both w T gd gr x) (hx : x.Roomy) (hf : o.Fits) (hr : Reads w A o.b) (hA : ∀ a, A = some a → o.b ≠ [] → ¬ T a.block) (hl : o.b.length ≤ 140737488351232) :
    Calls Try.prog 40 #[.pointer (some ⟨gd, 0, none⟩), .pointer (some ⟨gr, 0, none⟩), opVal o A c] w (StepPost w T gd gr x o) := by
  by_cases k1 : o.kind = 1
  · exact step_write gd gr T x o A c w hb hx hf hr hA hl k1
  by_cases k2 : o.kind = 2
  · exact step_sync gd gr T x o A c w hb hx hf hr hA hl k2
  by_cases k3 : o.kind = 3
  · exact step_cut gd gr T x o A c w hb hx hf hr hA hl k3
  by_cases k4 : o.kind = 4
  · exact step_read gd gr T x o A c w hb hx hf hr hA hl k4
  by_cases k5 : o.kind = 5
  · exact step_fail gd gr T x o A c w hb hx hf hr hA hl k5
  by_cases k6 : o.kind = 6
  · exact step_start gd gr T x o A c w hb hx hf hr hA hl k6
  by_cases k7 : o.kind = 7
  · exact step_damage gd gr T x o A c w hb hx hf hr hA hl k7
  by_cases k8 : o.kind = 8
  · exact step_tail gd gr T x o A c w hb hx hf hr hA hl k8
  by_cases k9 : o.kind = 9
  · exact step_look gd gr T x o A c w hb hx hf hr hA hl k9
  · exact step_none gd gr T x o A c w hb hx hf hr hA hl ⟨k1, k2, k3, k4, k5, k6, k7, k8, k9⟩

set_option maxRecDepth 100000 in
set_option maxHeartbeats 1000000 in
theorem plays_loop (A : Option Addr) (cap q : Nat) (os : List Op) (w : World) (hq : q ≤ 1048576) (hA : ScriptAt w A os) (hn : os.length ≤ 2932031007317) (hob : ∀ o ∈ os, o.b.length ≤ 140737488351232) :
    Calls Try.prog 11 #[.int .i64 (q : Int), .slice A os.length cap] w fun e w' => e = .returned (.bool true) ∧ Below w.heap.size w w' := by
  have HA := Lib.hid hA
  have HOB := Lib.hid hob
  clear hA hob
  go_enter Try.func11, Try.ntmps11
  go_wp2_with fail
  refine (devLive_calls _).mono ?_
  rintro e w1 ⟨rfl, hk1⟩
  have HK1 := Lib.hid hk1
  have hs1 := hk1.size
  clear hk1
  go_wp2_with fail
  refine (devNew_calls q w1 hq).mono ?_
  rintro e w2 ⟨rfl, hd2, hk2⟩
  have HD2 := Lib.hid hd2
  have HK2 := Lib.hid hk2
  have hs2 := hk2.size
  have hg2 := hd2.lt
  clear hd2 hk2
  go_wp2_with fail
  refine (refNew_yes q w2 hq).mono ?_
  rintro e w3 ⟨rfl, hr3, hk3⟩
  have hs3 := hk3.size
  have hg3 := hr3.lt
  have HB3 := Lib.hid (show Both w3 (fun j => w1.heap.size ≤ j) w1.heap.size w2.heap.size (Dv.fresh q) from ⟨fun k => w1.heap.size ≤ k ∧ k < w2.heap.size, fun k => w2.heap.size ≤ k ∧ k < w3.heap.size, HD2.out.here.below hk3.below, hr3.here, fun k h h' => by omega, fun k hk => by omega⟩)
  have HK3 := Lib.hid ((HK1.out.trans HK2.out).trans hk3)
  clear hr3 hk3 HD2 HK1 HK2
  go_wp2
  go_loopw [6, 41] (fun dv i wr => ∃ (k : Nat) (x : Dv) (gd : Nat), k ≤ os.length ∧ dv = .pointer (some ⟨gd, 0, none⟩) ∧ i = .int .i64 (k : Int) ∧ Both wr (fun j => w1.heap.size ≤ j) gd w2.heap.size x ∧ Keeps w wr ∧ x.Ok ∧ x.deeds ≤ k * 2097152 ∧ x.counted ≤ k * 2097152) (fun _ i _ => os.length - (intOf i).toNat)
  case atStart => exact ⟨0, Dv.fresh q, w1.heap.size, Nat.zero_le _, rfl, rfl, HB3.out, HK3.out, fresh_ok q hq, Nat.zero_le _, Nat.zero_le _⟩
  case round =>
    obtain ⟨k, x, gd, hk, rfl, rfl, hb, hkw, hok, hdd, hcc⟩ := hrel
    have HB := Lib.hid hb
    have HK := Lib.hid hkw
    have HOK := Lib.hid hok
    have hsw : w1.heap.size ≤ wr.heap.size := by
      obtain ⟨U1, U2, _, b2, _, b4⟩ := hb
      have := (b4 _ (.inr b2.self))
      omega
    clear hb hkw hok HB3 HK3
    by_cases hlt : k < os.length
    · obtain ⟨ad, rfl, hfit, bA, bc, hop0⟩ := HA.out k hlt
      have hop := hop0.keep (F := fun _ => False) (Touch.of_below HK.out.below fun k hk hb => absurd hk (by omega)) fun _ _ h => h
      obtain ⟨o, ho⟩ : ∃ o, o = os[k]'hlt := ⟨_, rfl⟩
      have hobl : o.b.length ≤ 140737488351232 := HOB.out o (by rw [ho]; exact List.getElem_mem hlt)
      rw [← ho] at hfit hop hop0
      have HFIT := Lib.hid hfit
      have i1 : (0 : Int) ≤ (k : Int) := Int.natCast_nonneg _
      have i2 : (k : Int) < (os.length : Int) := by omega
      obtain ⟨p0, p1, p2, p3, _, hbc⟩ := hop
      have HRB := Lib.hid hop0.reads
      have lB : ∀ ad, bA = some ad → o.b ≠ [] → ad.block < w.heap.size := fun ad e hn => by
        obtain ⟨ad', e1, hc⟩ := hop0.reads.out 0 (List.length_pos_iff.2 hn)
        rw [e] at e1
        cases e1
        have := World.block_lt_of_cell? w _ hc
        rwa [addr_add_block] at this
      have LB := Lib.hid lB
      have HRM := Lib.hid (show x.Roomy from ⟨HOK.out, by omega, by omega⟩)
      clear hfit ho hop0 lB
      by_cases k10 : o.kind = 10
      · rw [k10] at p0
        go_wp2_with fail
        obtain ⟨S1, S2, b1, b2, b3, b4⟩ := HB.out
        have hbw : Below wr.heap.size wr (wr.alloc (.cells #[.int .i64 10, .int .i64 o.n, .int .i64 o.m, .slice bA o.b.length bc] 45)) := (Below.refl _ wr).alloc (Nat.le_refl _) _
        refine (devClone_calls gd _ x _ (b1.below hbw) HOK.out).mono ?_
        rintro e w4 ⟨gS, rfl, hg4, d4, hk4⟩
        have hbx4 : w4.heap[wr.heap.size]? = some (.cells #[.int .i64 10, .int .i64 o.n, .int .i64 o.m, .slice bA o.b.length bc] 45 (0, 0)) := by
          rw [hk4.below.block wr.heap.size (by simp)]; exact obj_new wr _
        have hs4 : wr.heap.size + 1 ≤ w4.heap.size := by have := hk4.size; simpa using this
        have D1 := Lib.hid ((b1.below hbw).below hk4.below)
        have D2 := Lib.hid ((b2.below hbw).below hk4.below)
        have D4 := Lib.hid d4
        have B3 := Lib.hid b3
        have B4 := Lib.hid b4
        have HKS4 := Lib.hid ((HK.out.trans hbw).trans hk4)
        have HBX4 := Lib.hid hbx4
        clear hbw d4 hk4 hbx4 b1 b2 b3 b4 p0 p1 p2 p3
        go_wp2_with fail
        refine (stir_calls gd S1 x w4 D1.out HRM.out).mono ?_
        rintro e wS ⟨rfl, tS⟩
        have hsz := tS.size
        have hbxS := tS.obj HBX4.out (fun h => by have := (B4.out _ (.inl h)).2; omega)
        have x0 : wS.cell? ⟨wr.heap.size, 0, none⟩ = some (.int .i64 10) := by rw [obj_cell hbxS]; rfl
        have x1 : wS.cell? ⟨wr.heap.size, 1, none⟩ = some (.int .i64 o.n) := by rw [obj_cell hbxS]; rfl
        have x2 : wS.cell? ⟨wr.heap.size, 2, none⟩ = some (.int .i64 o.m) := by rw [obj_cell hbxS]; rfl
        have x3 : wS.cell? ⟨wr.heap.size, 3, none⟩ = some (.slice bA o.b.length bc) := by rw [obj_cell hbxS]; rfl
        have hsS : w1.heap.size ≤ wS.heap.size := by omega
        have HKS := Lib.hid (Touch.keeps HKS4.out (tS.mono fun j _ h => (B4.out j (.inl h)).1) hs1)
        have HBS := Lib.hid (show Both wS (fun j => w1.heap.size ≤ j) gS w2.heap.size x from ⟨fun j => wr.heap.size + 1 ≤ j ∧ j < w4.heap.size, S2,
          (D4.out.mono fun j hj h => ⟨by simpa using h, hj⟩).keep tS fun j _ h h' => by have := (B4.out j (.inl h')).2; omega,
          D2.out.keep tS fun j _ h h' => B3.out j h' h, fun j h h' => by have := (B4.out j (.inr h')).2; omega, fun j h => by
            rcases h with h | h
            · exact ⟨by omega, by omega⟩
            · have := B4.out j (.inr h); exact ⟨this.1, by omega⟩⟩)
        clear tS hbxS D1 D2 D4 B3 B4 HKS4 HBX4 HB HK
        go_wp2_with fail
        have hst := step_calls gS w2.heap.size (fun j => w1.heap.size ≤ j) x o bA bc wS HBS.out ⟨HOK.out, by omega, by omega⟩ HFIT.out (HRB.out.below HKS.out.below) (fun a e hn h => by have := LB.out a e hn; omega) hobl
        unfold opVal at hst
        rw [k10] at hst
        refine hst.mono ?_
        clear hst
        rintro e w9 ⟨rfl, hb9, ht9⟩
        have hss := HKS.out.size
        have hpc := play_counts HOK.out o
        have HB9 := Lib.hid (show Both w9 (fun j => w1.heap.size ≤ j) gS w2.heap.size (x.play o) from hb9.mono fun j _ h => h.elim (fun h => h) (fun h => Nat.le_trans hsS h))
        have HK9 := Lib.hid (Touch.keeps HKS.out ht9 hs1)
        have HO9 := Lib.hid (play_ok HOK.out HFIT.out)
        have HP9 := Lib.hid hpc
        clear hb9 ht9 hpc
        go_wp2
        exact ⟨⟨k + 1, x.play o, gS, by omega, rfl, by go_num, HB9.out, HK9.out, HO9.out, by have := HP9.out; omega, by have := HP9.out; omega⟩, by simp [intOf]; omega⟩
      · by_cases k11 : o.kind = 11
        · rw [k11] at p0
          go_wp2_with fail
          obtain ⟨S1, S2, b1, b2, b3, b4⟩ := HB.out
          have hbw : Below wr.heap.size wr (wr.alloc (.cells #[.int .i64 11, .int .i64 o.n, .int .i64 o.m, .slice bA o.b.length bc] 45)) := (Below.refl _ wr).alloc (Nat.le_refl _) _
          refine (devClone_calls gd _ x _ (b1.below hbw) HOK.out).mono ?_
          rintro e w4 ⟨g4, rfl, hg4, d4, hk4⟩
          have hbx4 : w4.heap[wr.heap.size]? = some (.cells #[.int .i64 11, .int .i64 o.n, .int .i64 o.m, .slice bA o.b.length bc] 45 (0, 0)) := by
            rw [hk4.below.block wr.heap.size (by simp)]; exact obj_new wr _
          have hs4 : wr.heap.size + 1 ≤ w4.heap.size := by have := hk4.size; simpa using this
          have D4 := Lib.hid (show DV w4 (fun j => wr.heap.size + 1 ≤ j) g4 x from d4.mono fun j hj h => by simpa using h)
          have HB4 := Lib.hid (show Both w4 (fun j => w1.heap.size ≤ j ∧ j < wr.heap.size) gd w2.heap.size x from ⟨S1, S2, (b1.below hbw).below hk4.below, (b2.below hbw).below hk4.below, b3, fun j hj => ⟨b4 j hj, by have := (b4 j hj).2; omega⟩⟩)
          have HKS4 := Lib.hid ((HK.out.trans hbw).trans hk4)
          have HBX4 := Lib.hid hbx4
          clear hbw d4 hk4 hbx4 b1 b2 b3 b4 p0 p1 p2 p3
          go_wp2_with fail
          refine (stir_calls g4 _ x w4 D4.out HRM.out).mono ?_
          rintro e wS ⟨rfl, tS⟩
          have hsz := tS.size
          have hbxS := tS.obj HBX4.out (fun h => by omega)
          have x0 : wS.cell? ⟨wr.heap.size, 0, none⟩ = some (.int .i64 11) := by rw [obj_cell hbxS]; rfl
          have x1 : wS.cell? ⟨wr.heap.size, 1, none⟩ = some (.int .i64 o.n) := by rw [obj_cell hbxS]; rfl
          have x2 : wS.cell? ⟨wr.heap.size, 2, none⟩ = some (.int .i64 o.m) := by rw [obj_cell hbxS]; rfl
          have x3 : wS.cell? ⟨wr.heap.size, 3, none⟩ = some (.slice bA o.b.length bc) := by rw [obj_cell hbxS]; rfl
          have hsS : w1.heap.size ≤ wS.heap.size := by omega
          obtain ⟨gS, hgS⟩ : ∃ gS, gS = gd := ⟨_, rfl⟩
          rw [← hgS] at HB4 ⊢
          have HKS := Lib.hid (Touch.keeps HKS4.out (tS.mono (G := fun j => w1.heap.size ≤ j) fun j _ h => by omega) hs1)
          have HBS := Lib.hid ((HB4.out.keep tS fun j _ h h' => by omega).mono (U := fun j => w1.heap.size ≤ j) fun j _ h => h.1)
          clear tS hbxS D4 HB4 HKS4 HBX4 HB HK hgS
          go_wp2_with fail
          have hst := step_calls gS w2.heap.size (fun j => w1.heap.size ≤ j) x o bA bc wS HBS.out ⟨HOK.out, by omega, by omega⟩ HFIT.out (HRB.out.below HKS.out.below) (fun a e hn h => by have := LB.out a e hn; omega) hobl
          unfold opVal at hst
          rw [k11] at hst
          refine hst.mono ?_
          clear hst
          rintro e w9 ⟨rfl, hb9, ht9⟩
          have hss := HKS.out.size
          have hpc := play_counts HOK.out o
          have HB9 := Lib.hid (show Both w9 (fun j => w1.heap.size ≤ j) gS w2.heap.size (x.play o) from hb9.mono fun j _ h => h.elim (fun h => h) (fun h => Nat.le_trans hsS h))
          have HK9 := Lib.hid (Touch.keeps HKS.out ht9 hs1)
          have HO9 := Lib.hid (play_ok HOK.out HFIT.out)
          have HP9 := Lib.hid hpc
          clear hb9 ht9 hpc
          go_wp2
          exact ⟨⟨k + 1, x.play o, gS, by omega, rfl, by go_num, HB9.out, HK9.out, HO9.out, by have := HP9.out; omega, by have := HP9.out; omega⟩, by simp [intOf]; omega⟩
        · obtain ⟨wS, hwS⟩ : ∃ wS, wS = (wr.alloc (.cells #[.int .i64 o.kind, .int .i64 o.n, .int .i64 o.m, .slice bA o.b.length bc] 45)) := ⟨_, rfl⟩
          have hbw : Below wr.heap.size wr wS := by rw [hwS]; exact (Below.refl _ wr).alloc (Nat.le_refl _) _
          obtain ⟨gS, hgS⟩ : ∃ gS, gS = gd := ⟨_, rfl⟩
          rw [← hgS] at HB ⊢
          have HKS := Lib.hid (HK.out.trans hbw)
          have HBS := Lib.hid (HB.out.below hbw)
          have hsS : w1.heap.size ≤ wS.heap.size := Nat.le_trans hsw hbw.size
          have HWS := Lib.hid hwS
          clear hbw HB HK hwS hgS
          go_wp2_with fail
          rw [← HWS.out]
          have hst := step_calls gS w2.heap.size (fun j => w1.heap.size ≤ j) x o bA bc wS HBS.out ⟨HOK.out, by omega, by omega⟩ HFIT.out (HRB.out.below HKS.out.below) (fun a e hn h => by have := LB.out a e hn; omega) hobl
          unfold opVal at hst
          refine hst.mono ?_
          clear hst
          rintro e w9 ⟨rfl, hb9, ht9⟩
          have hss := HKS.out.size
          have hpc := play_counts HOK.out o
          have HB9 := Lib.hid (show Both w9 (fun j => w1.heap.size ≤ j) gS w2.heap.size (x.play o) from hb9.mono fun j _ h => h.elim (fun h => h) (fun h => Nat.le_trans hsS h))
          have HK9 := Lib.hid (Touch.keeps HKS.out ht9 hs1)
          have HO9 := Lib.hid (play_ok HOK.out HFIT.out)
          have HP9 := Lib.hid hpc
          clear hb9 ht9 hpc
          go_wp2
          exact ⟨⟨k + 1, x.play o, gS, by omega, rfl, by go_num, HB9.out, HK9.out, HO9.out, by have := HP9.out; omega, by have := HP9.out; omega⟩, by simp [intOf]; omega⟩
    · go_wp2_with fail
      obtain ⟨S1, S2, b1, b2, b3, b4⟩ := HB.out
      refine (looks_calls gd w2.heap.size S1 S2 x wr b1 b2 HOK.out).mono ?_
      rintro e w9 ⟨rfl, hk9⟩
      have HK9 := Lib.hid (HK.out.trans hk9)
      clear b1 b2 b3 b4 hk9
      go_wp2
      go_ret
      exact ⟨rfl, HK9.out.below⟩

set_option maxHeartbeats 1000000 in
theorem plays_bad (A : Option Addr) (cap n : Nat) (q : Int) (w : World) (hq : q < 0 ∨ 1048576 < q) :
    Calls Try.prog 11 #[.int .i64 q, .slice A n cap] w fun e w' => e = .returned (.bool true) ∧ Below w.heap.size w w' := by
  have HQ := Lib.hid hq
  clear hq
  go_enter Try.func11, Try.ntmps11
  go_wp2_with fail
  refine (devLive_calls _).mono ?_
  rintro e w1 ⟨rfl, hk1⟩
  have HK1 := Lib.hid hk1
  clear hk1
  go_wp2_with fail
  refine (new_no q w1 HQ.out).mono ?_
  rintro e w2 ⟨rfl, rfl⟩
  go_wp2_with fail
  refine (refNew_no q w1 HQ.out).mono ?_
  rintro e w2 ⟨rfl, rfl⟩
  go_wp2
  go_ret
  exact ⟨rfl, HK1.out.below⟩
theorem plays_calls (A : Option Addr) (cap : Nat) (q : Int) (os : List Op) (w : World) (hA : ScriptAt w A os) (hn : os.length ≤ 2932031007317) (hob : ∀ o ∈ os, o.b.length ≤ 140737488351232) :
    Calls Try.prog 11 #[.int .i64 q, .slice A os.length cap] w fun e w' => e = .returned (.bool true) ∧ Below w.heap.size w w' := by
  by_cases h : q < 0 ∨ 1048576 < q
  · exact plays_bad A cap os.length q w h
  · obtain ⟨q', rfl⟩ := Int.eq_ofNat_of_zero_le (show 0 ≤ q by omega)
    exact plays_loop A cap q' os w (by omega) hA hn hob
end Go.Proofs.Ytnfefjlplipeiab
