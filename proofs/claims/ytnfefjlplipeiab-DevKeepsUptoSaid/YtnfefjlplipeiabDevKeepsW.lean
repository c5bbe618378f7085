/-
  The walk of the law DevKeeps. (under way)
-/
import Derived.Test.YtnfefjlplipeiabDevLive
import Derived.Test.YtnfefjlplipeiabDevBegins
import Derived.Deep.LoopGhost
import Derived.Deep.DeepCutAuto
import Derived.Deep.CutBlock
namespace Go.Proofs.Ytnfefjlplipeiab
open Go.RowKit Go.BigFrame
set_option linter.unusedVariables false
set_option linter.unusedSimpArgs false

/-- between two steps -/
structure KeepLoop (w w1 : World) (q : Nat) (os : List Op) (g : Nat) (s8 s49 : Value) (wx : World) : Prop where
  ex : ∃ (k : Nat) (d : Dv) (t : Bool), k ≤ os.length ∧ g = os.length - k ∧ s49 = .int .i64 (k : Int) ∧ s8 = .bool t ∧ DV wx (fun j => w1.heap.size ≤ j) w1.heap.size d ∧ Keeps w wx ∧ d.Ok ∧ d.quota = q ∧ (t = false → d.b.length ≤ d.quota) ∧ d.deeds ≤ k * 1048576
/-- behind a step -/
structure KeepMid (w : World) (B : Nat) (AB : Option Addr) (d : Dv) (t : Bool) (o : Op) (s8 s14 s15 s16 : Value) (wx : World) : Prop where
  ex : ∃ A2 c2, s8 = .bool (keepTail t d o) ∧ s14 = .int .i64 (d.keep o).2 ∧ s15 = .bool (keepChange d o) ∧ s16 = .slice A2 (keepAll d o).length c2 ∧ (keepAll d o).length ≤ c2 ∧ DV wx (fun j => B ≤ j) B (d.keep o).1 ∧ Keeps w wx ∧ Reads wx AB d.b ∧ Reads wx A2 (keepAll d o)

theorem beq_dec (a b : Int) : (a == b) = decide (a = b) := by by_cases h : a = b <;> simp [h]
theorem cell_keep {w w' : World} {p : Addr} {v : Value} (h : Keeps w w') (hc : w.cell? p = some v) : w'.cell? p = some v := by
  rw [h.below.cell (World.block_lt_of_cell? w p hc)]; exact hc

set_option maxRecDepth 100000 in
set_option maxHeartbeats 4000000 in
theorem keeps_loop (A : Option Addr) (cap q : Nat) (os : List Op) (w : World) (hq : q ≤ 1048576) (hA : ScriptAt w A os) (hn : os.length ≤ 1048576) (hob : ∀ o ∈ os, o.b.length ≤ 1048576) :
    Calls Try.prog 10 #[.int .i64 (q : Int), .slice A os.length cap] w fun e w' => e = .returned (.bool true) ∧ Below w.heap.size w w' := by
  have h0 : decide ((q : Int) < 0) = false := by rw [decide_eq_false_iff_not]; omega
  have h1 : decide ((1048576 : Int) < (q : Int)) = false := by rw [decide_eq_false_iff_not]; omega
  have HA := Lib.hid hA
  have HOB := Lib.hid hob
  clear hA hob
  go_enter Try.func10, Try.ntmps10
  go_wp2_with fail
  refine (devLive_calls _).mono ?_
  rintro e w1 ⟨rfl, hk1⟩
  have HK1 := Lib.hid hk1
  clear hk1
  go_wp2_with fail
  refine (devNew_calls q w1 hq).mono ?_
  rintro e w2 ⟨rfl, hd2, hk2⟩
  have HD2 := Lib.hid hd2
  have HK2 := Lib.hid (HK1.out.trans hk2)
  have hs1 : w.heap.size ≤ w1.heap.size := HK1.out.size
  clear hd2 hk2 HK1
  go_wp2
  go_loopg [8, 49] os.length (fun g s8 s49 wx => KeepLoop w w1 q os g s8 s49 wx)
  case atStart => exact ⟨0, Dv.fresh q, false, Nat.zero_le _, rfl, rfl, rfl, HD2.out, HK2.out, fresh_ok q hq, rfl, fun _ => Nat.zero_le _, Nat.zero_le _⟩
  case round =>
    obtain ⟨k, d, t, hk, rfl, rfl, rfl, hd, hkw, hok, hqd, ht, hdd⟩ := hrel.ex
    have HD := Lib.hid hd
    have HK := Lib.hid hkw
    have HOK := Lib.hid hok
    have HQD := Lib.hid hqd
    have HT := Lib.hid ht
    have hdq := hok.quota
    have hsz := hok.size
    have hsy := hok.synced
    have hgs := hd.lt
    clear hd hkw hok hqd ht hrel HD2 HK2
    by_cases hlt : k < os.length
    · obtain ⟨ad, rfl, hfit, bA, bc, hop0⟩ := HA.out k hlt
      have hop := hop0.keep (F := fun _ => False) (Touch.of_below HK.out.below fun k hk hb => absurd hk (by omega)) fun _ _ h => h
      obtain ⟨o, ho⟩ : ∃ o, o = os[k]'hlt := ⟨_, rfl⟩
      have hobl : o.b.length ≤ 1048576 := HOB.out o (by rw [ho]; exact List.getElem_mem hlt)
      rw [← ho] at hfit hop hop0
      have HFIT := Lib.hid hfit
      have i1 : (0 : Int) ≤ (k : Int) := Int.natCast_nonneg _
      have i2 : (k : Int) < (os.length : Int) := by omega
      obtain ⟨p0, p1, p2, p3, _, hbc⟩ := hop
      have HRB := Lib.hid hop0.reads
      have lB : ∀ ad, bA = some ad → o.b ≠ [] → ad.block < w.heap.size := fun ad e hn => by
        obtain ⟨ad', e1, hc⟩ := hop0.reads.out 0 (List.length_pos_iff.2 hn)
        rw [e] at e1
        cases e1
        have := World.block_lt_of_cell? w _ hc
        rwa [addr_add_block] at this
      have LB := Lib.hid lB
      have HLAW := Lib.hid (keeps_all d t o HOK.out HT.out hfit)
      clear hfit ho hop0 lB
      go_wp2_with fail
      have hbw : Below wr.heap.size wr (wr.alloc (.cells #[.int .i64 o.kind, .int .i64 o.n, .int .i64 o.m, .slice bA o.b.length bc] 45)) := (Below.refl _ wr).alloc (Nat.le_refl _) _
      refine (devAll_calls w1.heap.size _ d _ (HD.out.here.below hbw) HOK.out).mono ?_
      rintro e w3 ⟨vB, rfl, hoB, hk3⟩
      obtain ⟨AB, cB, rfl, hcB, _⟩ := hoB.form
      have HD3 := Lib.hid ((HD.out.here.below hbw).below hk3.below)
      have HK3 := Lib.hid ((HK.out.trans hbw).trans hk3)
      have hs3 : wr.heap.size < w3.heap.size := by have := hk3.size; simp at this; omega
      have HK3s := Lib.hid hs3
      have hbx : w3.heap[wr.heap.size]? = some (.cells #[.int .i64 o.kind, .int .i64 o.n, .int .i64 o.m, .slice bA o.b.length bc] 45 (0, 0)) := by
        rw [hk3.below.block wr.heap.size (by simp)]; exact obj_new wr _
      have x0 : w3.cell? ⟨wr.heap.size, 0, none⟩ = some (.int .i64 o.kind) := by rw [obj_cell hbx]; rfl
      have x1 : w3.cell? ⟨wr.heap.size, 1, none⟩ = some (.int .i64 o.n) := by rw [obj_cell hbx]; rfl
      have x2 : w3.cell? ⟨wr.heap.size, 2, none⟩ = some (.int .i64 o.m) := by rw [obj_cell hbx]; rfl
      have x3 : w3.cell? ⟨wr.heap.size, 3, none⟩ = some (.slice bA o.b.length bc) := by rw [obj_cell hbx]; rfl
      have HBX3 := Lib.hid hbx
      have HB3 := Lib.hid hoB
      clear hbx hoB hk3 hbw p0 p1 p2 p3 HD
      go_wp2_with fail
      refine (devSynced_calls w1.heap.size _ d w3 HD3.out).mono ?_
      rintro e w4 ⟨rfl, rfl⟩
      go_wp2_with fail
      refine (devUp_calls w1.heap.size _ d w3 HD3.out).mono ?_
      rintro e w4 ⟨rfl, rfl⟩
      go_upto_block 2 with fail
      go_cut [8, 14, 15, 16, 61] (fun s8 s14 s15 s16 s61 wx => KeepMid w w1.heap.size AB d t o s8 s14 s15 s16 wx)
      case first =>
          by_cases k1 : o.kind = 1
          · as_aux_lemma =>
              have HF := Lib.hid (show d.keep o = d.write o.b by unfold Dv.keep; rw [if_pos k1])
              have HC := Lib.hid (show keepChange d o = false by unfold keepChange; rw [if_neg (by omega), if_neg (by omega)])
              have HL := Lib.hid (show keepAll d o = d.b ++ o.b by unfold keepAll; rw [if_pos (by omega)])
              have HTT := Lib.hid (show keepTail t d o = t by unfold keepTail; rw [if_neg (by omega)])
              go_wp2_with fail
              refine (write_calls w1.heap.size _ d bA bc o.b w3 HD3.out HOK.out (HRB.out.below HK3.out.below) (fun a e hn h => by have := LB.out a e hn; omega) (by omega) (by omega)).mono ?_
              rintro e w4 ⟨rfl, hd4, ht4⟩
              rw [← HF.out] at hd4 ⊢
              have HD4 := Lib.hid (hd4.mono (T := fun j => w1.heap.size ≤ j) fun j _ h => by
                  rcases h with h | h
                  · exact h.1
                  · have h5 := HK3s.out; have h6 : w3.heap.size ≤ j := h; omega)
              have HK4 := Lib.hid (Touch.keeps HK3.out (ht4.mono fun j _ h => h.1) hs1)
              have HB4 := Lib.hid (OwnL.keep HB3.out ht4 fun j hj h => by have := (HB3.out.lt j hj).1; have h7 := h.2; simp at this; omega)
              have hbx4 := ht4.obj HBX3.out (fun h => by have := h.2; omega)
              have x3 : w4.cell? ⟨wr.heap.size, 3, none⟩ = some (.slice bA o.b.length bc) := by rw [obj_cell hbx4]; rfl
              have hlt4 : wr.heap.size < w4.heap.size := obj_lt hbx4
              clear hd4 ht4 hbx4
              go_wp2_with fail
              go_region_law (first
                | (refine step_append_loose w4.heap.size (by rfl) _ _ 22 5 (by rfl) Try.underlying22 info_u8 v7 d.b o.b (by rfl) hown7 bA bc (by rfl) ((HRB.out.below HK4.out.below).below hk7.below) (by omega) hk7.size ?_; intro v8 w8 hown8 hgr8 hat8; rw [← HL.out] at hown8; obtain ⟨A8, c8, rfl, hf8⟩ := hown8.form)
                | (refine step_append_loose w4.heap.size (by rfl) _ _ 22 5 (by rfl) Try.underlying22 info_u8 (.slice (some ⟨w4.heap.size, 0, none⟩) 0 0) [] d.b (by rfl) (OwnL.empty _ _ _ _) AB cB (by rfl) (HB4.out.reads.below ((Below.refl w4.heap.size w4).drew.alloc (Nat.le_refl _) _)) (by simp; omega) (by simp) ?_; intro v7 w7 hown7 hgr7 hat7; have hk7 : Keeps w4 w7 := Touch.nothing (F := fun _ => False) ((((Touch.refl _ w4).drew).alloc _).grown hgr7 fun i h _ => by rw [blk_empty] at h; cases h) fun _ _ h => h; have y3 := cell_keep hk7 x3))
              all_goals
                have hk8 : Keeps w4 w8 := hk7.trans' hgr8 (fun k hk => (hown7.lt k hk).1)
                have HB8 := Lib.hid (HB4.out.below hk8.below)
                have HK8 := Lib.hid (HK4.out.trans hk8)
                have HD8 := Lib.hid (HD4.out.below hk8.below)
                clear hown7 hgr7 hat7 hk7 hgr8 hat8 hk8
                go_wp2
                go_meet
                case rel => exact ⟨A8, c8, by rw [HTT.out] <;> rfl, rfl, by rw [HC.out] <;> rfl, rfl, hf8.1, HD8.out, HK8.out, HB8.out.reads, hown8.reads⟩
          by_cases k2 : o.kind = 2
          · as_aux_lemma =>
              have HF := Lib.hid (show d.keep o = d.sync by unfold Dv.keep; rw [if_neg k1, if_pos k2])
              have HC := Lib.hid (show keepChange d o = false by unfold keepChange; rw [if_neg (by omega), if_neg (by omega)])
              have HL := Lib.hid (show keepAll d o = d.b by unfold keepAll; rw [if_neg (by omega)])
              have HTT := Lib.hid (show keepTail t d o = t by unfold keepTail; rw [if_neg (by omega)])
              go_wp2_with fail
              refine (devSync_calls w1.heap.size _ d w3 HD3.out).mono ?_
              rintro e w4 ⟨rfl, hd4, ht4⟩
              rw [← HF.out] at hd4 ⊢
              have HD4 := Lib.hid (hd4.mono (T := fun j => w1.heap.size ≤ j) fun j _ h => by
                  rcases h with h | h
                  · exact h.1
                  · have h5 := HK3s.out; have h6 : w3.heap.size ≤ j := h; omega)
              have HK4 := Lib.hid (Touch.keeps HK3.out (ht4.mono fun j _ h => h.1) hs1)
              have HB4 := Lib.hid (OwnL.keep HB3.out ht4 fun j hj h => by have := (HB3.out.lt j hj).1; have h7 := h.2; simp at this; omega)
              clear hd4 ht4
              go_wp2
              go_meet
              case rel => exact ⟨AB, cB, by rw [HTT.out] <;> rfl, rfl, by rw [HC.out] <;> rfl, by rw [HL.out], by rw [HL.out]; exact hcB, HD4.out, HK4.out, HB4.out.reads, by rw [HL.out]; exact HB4.out.reads⟩
          by_cases k3 : o.kind = 3
          · as_aux_lemma =>
              have HF := Lib.hid (show d.keep o = d.cut o.n by unfold Dv.keep; rw [if_neg k1, if_neg k2, if_pos k3])
              have HC := Lib.hid (show keepChange d o = decide ((d.cut o.n).2 = 0) by unfold keepChange; rw [if_pos k3])
              have HL := Lib.hid (show keepAll d o = d.b by unfold keepAll; rw [if_neg (by omega)])
              have HTT := Lib.hid (show keepTail t d o = t by unfold keepTail; rw [if_neg (by omega)])
              go_wp2_with fail
              refine (devCut_calls w1.heap.size _ d o.n w3 HD3.out HOK.out (by omega)).mono ?_
              rintro e w4 ⟨rfl, hd4, ht4⟩
              rw [← HF.out] at hd4 ⊢
              have HD4 := Lib.hid (hd4.mono (T := fun j => w1.heap.size ≤ j) fun j _ h => by
                  rcases h with h | h
                  · exact h.1
                  · have h5 := HK3s.out; have h6 : w3.heap.size ≤ j := h; omega)
              have HK4 := Lib.hid (Touch.keeps HK3.out (ht4.mono fun j _ h => h.1) hs1)
              have HB4 := Lib.hid (OwnL.keep HB3.out ht4 fun j hj h => by have := (HB3.out.lt j hj).1; have h7 := h.2; simp at this; omega)
              clear hd4 ht4
              go_wp2
              go_meet
              case rel => exact ⟨AB, cB, by rw [HTT.out] <;> rfl, rfl, by rw [HC.out, HF.out, beq_dec] <;> rfl, by rw [HL.out], by rw [HL.out]; exact hcB, HD4.out, HK4.out, HB4.out.reads, by rw [HL.out]; exact HB4.out.reads⟩
          by_cases k5 : o.kind = 5
          · as_aux_lemma =>
              have HF := Lib.hid (show d.keep o = d.fail o.n o.m by unfold Dv.keep; rw [if_neg k1, if_neg k2, if_neg k3, if_pos k5])
              have HC := Lib.hid (show keepChange d o = false by unfold keepChange; rw [if_neg (by omega), if_neg (by omega)])
              have HL := Lib.hid (show keepAll d o = d.b by unfold keepAll; rw [if_neg (by omega)])
              have HTT := Lib.hid (show keepTail t d o = t by unfold keepTail; rw [if_neg (by omega)])
              go_wp2_with fail
              refine (devFail_calls w1.heap.size _ d o.n o.m w3 HD3.out).mono ?_
              rintro e w4 ⟨rfl, hd4, ht4⟩
              rw [← HF.out] at hd4 ⊢
              have HD4 := Lib.hid (hd4.mono (T := fun j => w1.heap.size ≤ j) fun j _ h => by
                  rcases h with h | h
                  · exact h.1
                  · have h5 := HK3s.out; have h6 : w3.heap.size ≤ j := h; omega)
              have HK4 := Lib.hid (Touch.keeps HK3.out (ht4.mono fun j _ h => h.1) hs1)
              have HB4 := Lib.hid (OwnL.keep HB3.out ht4 fun j hj h => by have := (HB3.out.lt j hj).1; have h7 := h.2; simp at this; omega)
              clear hd4 ht4
              go_wp2
              go_meet
              case rel => exact ⟨AB, cB, by rw [HTT.out] <;> rfl, rfl, by rw [HC.out] <;> rfl, by rw [HL.out], by rw [HL.out]; exact hcB, HD4.out, HK4.out, HB4.out.reads, by rw [HL.out]; exact HB4.out.reads⟩
          by_cases k6 : o.kind = 6
          · as_aux_lemma =>
              have HF := Lib.hid (show d.keep o = d.start by unfold Dv.keep; rw [if_neg k1, if_neg k2, if_neg k3, if_neg k5, if_pos k6])
              have HC := Lib.hid (show keepChange d o = false by unfold keepChange; rw [if_neg (by omega), if_neg (by omega)])
              have HL := Lib.hid (show keepAll d o = d.b by unfold keepAll; rw [if_neg (by omega)])
              have HTT := Lib.hid (show keepTail t d o = t by unfold keepTail; rw [if_neg (by omega)])
              go_wp2_with fail
              refine (devStart_calls w1.heap.size _ d w3 HD3.out).mono ?_
              rintro e w4 ⟨rfl, hd4, ht4⟩
              rw [← HF.out] at hd4 ⊢
              have HD4 := Lib.hid (hd4.mono (T := fun j => w1.heap.size ≤ j) fun j _ h => by
                  rcases h with h | h
                  · exact h.1
                  · have h5 := HK3s.out; have h6 : w3.heap.size ≤ j := h; omega)
              have HK4 := Lib.hid (Touch.keeps HK3.out (ht4.mono fun j _ h => h.1) hs1)
              have HB4 := Lib.hid (OwnL.keep HB3.out ht4 fun j hj h => by have := (HB3.out.lt j hj).1; have h7 := h.2; simp at this; omega)
              clear hd4 ht4
              go_wp2
              go_meet
              case rel => exact ⟨AB, cB, by rw [HTT.out] <;> rfl, rfl, by rw [HC.out] <;> rfl, by rw [HL.out], by rw [HL.out]; exact hcB, HD4.out, HK4.out, HB4.out.reads, by rw [HL.out]; exact HB4.out.reads⟩
          by_cases k7 : o.kind = 7
          · as_aux_lemma =>
              have HF := Lib.hid (show d.keep o = d.damage o.n (byteOf o.m) by unfold Dv.keep; rw [if_neg k1, if_neg k2, if_neg k3, if_neg k5, if_neg k6, if_pos k7])
              have HC := Lib.hid (show keepChange d o = decide ((d.damage o.n (byteOf o.m)).2 = 0) by unfold keepChange; rw [if_neg k3, if_pos k7])
              have HL := Lib.hid (show keepAll d o = d.b by unfold keepAll; rw [if_neg (by omega)])
              have HTT := Lib.hid (show keepTail t d o = t by unfold keepTail; rw [if_neg (by omega)])
              go_wp2_with fail
              go_region_with (first
                  | (go_at_call 33; refine (byteOf_calls o.m _).mono ?_; rintro e wx ⟨rfl, rfl⟩)
                  | (go_at_call 32; refine (devDamage_calls w1.heap.size _ d o.n (byteOf o.m) _ (HD3.out.below (Keeps.drew w3).below) HOK.out).mono ?_; rintro e w4 ⟨rfl, hd4, ht4⟩))
              all_goals
                have ht4 : Touch (fun j => w1.heap.size ≤ j ∧ j < wr.heap.size) w3 w4 := ((Touch.refl _ w3).drew).then ht4
                rw [← HF.out] at hd4 ⊢
                have HD4 := Lib.hid (hd4.mono (T := fun j => w1.heap.size ≤ j) fun j _ h => by
                    rcases h with h | h
                    · exact h.1
                    · have h5 := HK3s.out; have h6 : w3.heap.size ≤ j := h; omega)
                have HK4 := Lib.hid (Touch.keeps HK3.out (ht4.mono fun j _ h => h.1) hs1)
                have HB4 := Lib.hid (OwnL.keep HB3.out ht4 fun j hj h => by have := (HB3.out.lt j hj).1; have h7 := h.2; simp at this; omega)
                clear hd4 ht4
                go_wp2
                go_meet
                case rel => exact ⟨AB, cB, by rw [HTT.out] <;> rfl, rfl, by rw [HC.out, HF.out, beq_dec] <;> rfl, by rw [HL.out], by rw [HL.out]; exact hcB, HD4.out, HK4.out, HB4.out.reads, by rw [HL.out]; exact HB4.out.reads⟩
          by_cases k8 : o.kind = 8
          · as_aux_lemma =>
              have HF := Lib.hid (show d.keep o = d.tail o.b by unfold Dv.keep; rw [if_neg k1, if_neg k2, if_neg k3, if_neg k5, if_neg k6, if_neg k7, if_pos k8])
              have HC := Lib.hid (show keepChange d o = false by unfold keepChange; rw [if_neg (by omega), if_neg (by omega)])
              have HL := Lib.hid (show keepAll d o = d.b ++ o.b by unfold keepAll; rw [if_pos (by omega)])
              have HTT := Lib.hid (show ∀ t, keepTail t d o = (t || ((d.keep o).2 == 0)) by intro t; unfold keepTail; rw [if_pos k8, HF.out, beq_dec])
              cases t
              all_goals
                go_wp2_with fail
                refine (devTail_calls w1.heap.size _ d bA bc o.b w3 HD3.out HOK.out (by omega) (HRB.out.below HK3.out.below)).mono ?_
                rintro e w4 ⟨rfl, hd4, ht4⟩
                rw [← HF.out] at hd4 ⊢
                have HD4 := Lib.hid (hd4.mono (T := fun j => w1.heap.size ≤ j) fun j _ h => by
                    rcases h with h | h
                    · exact h.1
                    · have h5 := HK3s.out; have h6 : w3.heap.size ≤ j := h; omega)
                have HK4 := Lib.hid (Touch.keeps HK3.out (ht4.mono fun j _ h => h.1) hs1)
                have HB4 := Lib.hid (OwnL.keep HB3.out ht4 fun j hj h => by have := (HB3.out.lt j hj).1; have h7 := h.2; simp at this; omega)
                have hbx4 := ht4.obj HBX3.out (fun h => by have := h.2; omega)
                have x3 : w4.cell? ⟨wr.heap.size, 3, none⟩ = some (.slice bA o.b.length bc) := by rw [obj_cell hbx4]; rfl
                have hlt4 : wr.heap.size < w4.heap.size := obj_lt hbx4
                clear hd4 ht4 hbx4
                go_wp2_with fail
                go_region_law (first
                  | (refine step_append_loose w4.heap.size (by rfl) _ _ 22 5 (by rfl) Try.underlying22 info_u8 v7 d.b o.b (by rfl) hown7 bA bc (by rfl) ((HRB.out.below HK4.out.below).below hk7.below) (by omega) hk7.size ?_; intro v8 w8 hown8 hgr8 hat8; rw [← HL.out] at hown8; obtain ⟨A8, c8, rfl, hf8⟩ := hown8.form)
                  | (refine step_append_loose w4.heap.size (by rfl) _ _ 22 5 (by rfl) Try.underlying22 info_u8 (.slice (some ⟨w4.heap.size, 0, none⟩) 0 0) [] d.b (by rfl) (OwnL.empty _ _ _ _) AB cB (by rfl) (HB4.out.reads.below ((Below.refl w4.heap.size w4).drew.alloc (Nat.le_refl _) _)) (by simp; omega) (by simp) ?_; intro v7 w7 hown7 hgr7 hat7; have hk7 : Keeps w4 w7 := Touch.nothing (F := fun _ => False) ((((Touch.refl _ w4).drew).alloc _).grown hgr7 fun i h _ => by rw [blk_empty] at h; cases h) fun _ _ h => h; have y3 := cell_keep hk7 x3))
                all_goals
                  have hk8 : Keeps w4 w8 := hk7.trans' hgr8 (fun k hk => (hown7.lt k hk).1)
                  have HB8 := Lib.hid (HB4.out.below hk8.below)
                  have HK8 := Lib.hid (HK4.out.trans hk8)
                  have HD8 := Lib.hid (HD4.out.below hk8.below)
                  clear hown7 hgr7 hat7 hk7 hgr8 hat8 hk8
                  go_wp2
                  go_meet
                  case rel => exact ⟨A8, c8, by rw [HTT.out] <;> rfl, rfl, by rw [HC.out] <;> rfl, rfl, hf8.1, HD8.out, HK8.out, HB8.out.reads, hown8.reads⟩
          have HF := Lib.hid (show d.keep o = (d, 0) by unfold Dv.keep; rw [if_neg k1, if_neg k2, if_neg k3, if_neg k5, if_neg k6, if_neg k7, if_neg k8])
          have HC := Lib.hid (show keepChange d o = false by unfold keepChange; rw [if_neg k3, if_neg k7])
          have HL := Lib.hid (show keepAll d o = d.b by unfold keepAll; rw [if_neg (by omega)])
          have HTT := Lib.hid (show keepTail t d o = t by unfold keepTail; rw [if_neg k8])
          go_wp2
          go_meet
          case rel => exact ⟨AB, cB, by rw [HTT.out], by rw [HF.out], by rw [HC.out], by rw [HL.out], by rw [HL.out]; exact hcB, by rw [HF.out]; exact HD3.out.mono fun j _ h => h.1, HK3.out, HB3.out.reads, by rw [HL.out]; exact HB3.out.reads⟩
      case rest =>
          obtain ⟨A2, c2, rfl, rfl, rfl, rfl, hc2, hd4, hk4, hrB, hrA⟩ := hcut.ex
          obtain ⟨l1, l2, l3, l4, l5, l6, l7⟩ := HLAW.out
          have hal : (keepAll d o).length ≤ 4194304 := by
            unfold keepAll
            split
            · rw [List.length_append]; omega
            · omega
          obtain ⟨d2, e1⟩ : ∃ d2, d2 = (d.keep o).1 := ⟨_, rfl⟩
          obtain ⟨fc, e2⟩ : ∃ fc, fc = (d.keep o).2 := ⟨_, rfl⟩
          obtain ⟨all, e3⟩ : ∃ all, all = keepAll d o := ⟨_, rfl⟩
          obtain ⟨ch, e4⟩ : ∃ ch, ch = keepChange d o := ⟨_, rfl⟩
          obtain ⟨t2, e5⟩ : ∃ t2, t2 = keepTail t d o := ⟨_, rfl⟩
          rw [← e2, ← e3, ← e4, ← e5]
          rw [← e1] at hd4 l1 l2 l3 l4 l5 l6 l7
          rw [← e2] at l5 l6
          rw [← e3] at hc2 hrA hal l4
          rw [← e4] at l4
          rw [← e5] at l3
          clear e1 e2 e3 e4 e5
          have hs2 := l1.synced
          have hz2 := l1.size
          have b1 : decide ((d2.b.length : Int) < (d2.synced : Int)) = false := by rw [decide_eq_false_iff_not]; omega
          have b0 : ¬ d2.b.length < d2.synced := by omega
          have hq2 : t2 = false → decide ((q : Int) < (d2.b.length : Int)) = false := fun h => by have := l3 h; have h8 := HQD.out; rw [decide_eq_false_iff_not]; omega
          have htk : (d.b.take d.synced).length = d.synced := by rw [List.length_take]; omega
          have hsc : d.synced ≤ cB := by omega
          have HTK := Lib.hid htk
          have HQ2 := Lib.hid hq2
          have HD4 := Lib.hid hd4
          have HK4 := Lib.hid hk4
          have HRB4 := Lib.hid hrB
          have HRA4 := Lib.hid hrA
          have O2 := Lib.hid l1
          have HQU := Lib.hid (l2.trans HQD.out)
          have L3 := Lib.hid l3
          have L4 := Lib.hid l4
          have L5 := Lib.hid l5
          have L6 := Lib.hid l6
          have L7 := Lib.hid l7
          clear hd4 hk4 hrB hrA l1 l2 l3 l4 l5 l6 l7 htk hq2 HB3 HBX3 HD3 HK3 HK3s x0 x1 x2 x3 hcut HLAW
          go_wp2_with fail
          refine (devAll_calls w1.heap.size _ d2 wc HD4.out O2.out).mono ?_
          rintro e w5 ⟨v5, rfl, ho5, hk5⟩
          obtain ⟨A5, c5, rfl, hc5, _⟩ := ho5.form
          have HR5 := Lib.hid ho5.reads
          have HRB5 := Lib.hid (HRB4.out.below hk5.below)
          have HRA5 := Lib.hid (HRA4.out.below hk5.below)
          have HD5 := Lib.hid (HD4.out.below hk5.below)
          have HK5 := Lib.hid (HK4.out.trans hk5)
          clear ho5 hk5 HRB4 HRA4 HD4 HK4
          go_wp2_with fail
          refine (devSynced_calls w1.heap.size _ d2 w5 HD5.out).mono ?_
          rintro e w6 ⟨rfl, rfl⟩
          go_wp2_with fail
          refine (devLen_calls w1.heap.size _ d2 w5 HD5.out).mono ?_
          rintro e w6 ⟨rfl, rfl⟩
          go_wp2_with fail
          refine (devLen_calls w1.heap.size _ d2 w5 HD5.out).mono ?_
          rintro e w6 ⟨rfl, rfl⟩
          cases t2
          · have b2 := HQ2.out rfl
            have b3 : ¬ q < d2.b.length := by have := L3.out rfl; have h8 := HQD.out; omega
            go_wp2_with fail
            refine (devLen_calls w1.heap.size _ d2 w5 HD5.out).mono ?_
            rintro e w6 ⟨rfl, rfl⟩
            cases ch
            · have hbg := begins_calls AB A5 cB c5 (d.b.take d.synced) d2.b w5 (by rw [HTK.out]; omega) (by omega) hc5 (HRB5.out.take _) HR5.out
              rw [HTK.out, decide_eq_true (L4.out rfl).1] at hbg
              have H4 := Lib.hid (L4.out rfl).2
              have HBG := Lib.hid hbg
              clear hbg
              go_wp2_with fail
              refine HBG.out.mono ?_
              rintro e w6 ⟨rfl, hq6⟩
              have HR6 := Lib.hid (HR5.out.quiet hq6)
              have HRA6 := Lib.hid (HRA5.out.quiet hq6)
              have HRB6 := Lib.hid (HRB5.out.quiet hq6)
              have HD6 := Lib.hid (HD5.out.below (hq6.below _))
              have HK6 := Lib.hid (HK5.out.quiet hq6)
              clear hq6
              go_wp2_with fail
              refine (at_bool (b := true) (decide_eq_true H4.out) (begins_calls A5 A2 c5 c2 d2.b all w6 (by omega) (by omega) hc2 HR6.out HRA6.out)).mono ?_
              rintro e w7 ⟨rfl, hq7⟩
              have HR7 := Lib.hid (HR6.out.quiet hq7)
              have HRB7 := Lib.hid (HRB6.out.quiet hq7)
              have HD7 := Lib.hid (HD6.out.below (hq7.below _))
              have HK7 := Lib.hid (HK6.out.quiet hq7)
              clear hq7
              as_aux_lemma =>
                by_cases hp : fc = 51
                · subst hp
                  have hpw := L5.out.1 rfl
                  have hdn := hpw.1
                  have hd2n := hpw.2
                  clear hpw
                  go_wp2_with fail
                  refine (devUp_calls w1.heap.size _ d2 w7 HD7.out).mono ?_
                  rintro e w9 ⟨rfl, rfl⟩
                  rw [hd2n]
                  go_wp2
                  go_roundg (os.length - (k + 1))
                  case measure => omega
                  case rel => exact ⟨k + 1, d2, false, by omega, rfl, by go_num, rfl, HD7.out, HK7.out, O2.out, HQU.out, fun h => by first | exact absurd h (by decide) | (have h1 := HQU.out; omega), by have := L7.out; omega⟩
                · cases hdn : d.down
                  · have hd2n : d2.down = false := by
                      cases h9 : d2.down with
                      | false => rfl
                      | true => exact absurd (L5.out.2 ⟨hdn, h9⟩) hp
                    go_wp2_with fail
                    refine (devUp_calls w1.heap.size _ d2 w7 HD7.out).mono ?_
                    rintro e w9 ⟨rfl, rfl⟩
                    rw [hd2n]
                    by_cases hr : fc = 52
                    · subst hr
                      have H6 := Lib.hid (L6.out rfl)
                      go_wp2_with fail
                      refine (at_bool (b := true) (by rw [decide_eq_true_eq]; exact H6.out.symm) (same05_calls AB A5 cB c5 d.b d2.b w7 (by omega) (by omega) HRB7.out HR7.out)).mono ?_
                      rintro e w9 ⟨rfl, hq9⟩
                      have HD9 := Lib.hid (HD7.out.below (hq9.below _))
                      have HK9 := Lib.hid (HK7.out.quiet hq9)
                      clear hq9
                      go_wp2
                      go_roundg (os.length - (k + 1))
                      case measure => omega
                      case rel => exact ⟨k + 1, d2, false, by omega, rfl, by go_num, rfl, HD9.out, HK9.out, O2.out, HQU.out, fun h => by first | exact absurd h (by decide) | (have h1 := HQU.out; omega), by have := L7.out; omega⟩
                    · skip
                      go_wp2
                      go_roundg (os.length - (k + 1))
                      case measure => omega
                      case rel => exact ⟨k + 1, d2, false, by omega, rfl, by go_num, rfl, HD7.out, HK7.out, O2.out, HQU.out, fun h => by first | exact absurd h (by decide) | (have h1 := HQU.out; omega), by have := L7.out; omega⟩
                  · skip
                    by_cases hr : fc = 52
                    · subst hr
                      have H6 := Lib.hid (L6.out rfl)
                      go_wp2_with fail
                      refine (at_bool (b := true) (by rw [decide_eq_true_eq]; exact H6.out.symm) (same05_calls AB A5 cB c5 d.b d2.b w7 (by omega) (by omega) HRB7.out HR7.out)).mono ?_
                      rintro e w9 ⟨rfl, hq9⟩
                      have HD9 := Lib.hid (HD7.out.below (hq9.below _))
                      have HK9 := Lib.hid (HK7.out.quiet hq9)
                      clear hq9
                      go_wp2
                      go_roundg (os.length - (k + 1))
                      case measure => omega
                      case rel => exact ⟨k + 1, d2, false, by omega, rfl, by go_num, rfl, HD9.out, HK9.out, O2.out, HQU.out, fun h => by first | exact absurd h (by decide) | (have h1 := HQU.out; omega), by have := L7.out; omega⟩
                    · skip
                      go_wp2
                      go_roundg (os.length - (k + 1))
                      case measure => omega
                      case rel => exact ⟨k + 1, d2, false, by omega, rfl, by go_num, rfl, HD7.out, HK7.out, O2.out, HQU.out, fun h => by first | exact absurd h (by decide) | (have h1 := HQU.out; omega), by have := L7.out; omega⟩
            · skip
              as_aux_lemma =>
                by_cases hp : fc = 51
                · subst hp
                  have hpw := L5.out.1 rfl
                  have hdn := hpw.1
                  have hd2n := hpw.2
                  clear hpw
                  go_wp2_with fail
                  refine (devUp_calls w1.heap.size _ d2 w5 HD5.out).mono ?_
                  rintro e w9 ⟨rfl, rfl⟩
                  rw [hd2n]
                  go_wp2
                  go_roundg (os.length - (k + 1))
                  case measure => omega
                  case rel => exact ⟨k + 1, d2, false, by omega, rfl, by go_num, rfl, HD5.out, HK5.out, O2.out, HQU.out, fun h => by first | exact absurd h (by decide) | (have h1 := HQU.out; omega), by have := L7.out; omega⟩
                · cases hdn : d.down
                  · have hd2n : d2.down = false := by
                      cases h9 : d2.down with
                      | false => rfl
                      | true => exact absurd (L5.out.2 ⟨hdn, h9⟩) hp
                    go_wp2_with fail
                    refine (devUp_calls w1.heap.size _ d2 w5 HD5.out).mono ?_
                    rintro e w9 ⟨rfl, rfl⟩
                    rw [hd2n]
                    by_cases hr : fc = 52
                    · subst hr
                      have H6 := Lib.hid (L6.out rfl)
                      go_wp2_with fail
                      refine (at_bool (b := true) (by rw [decide_eq_true_eq]; exact H6.out.symm) (same05_calls AB A5 cB c5 d.b d2.b w5 (by omega) (by omega) HRB5.out HR5.out)).mono ?_
                      rintro e w9 ⟨rfl, hq9⟩
                      have HD9 := Lib.hid (HD5.out.below (hq9.below _))
                      have HK9 := Lib.hid (HK5.out.quiet hq9)
                      clear hq9
                      go_wp2
                      go_roundg (os.length - (k + 1))
                      case measure => omega
                      case rel => exact ⟨k + 1, d2, false, by omega, rfl, by go_num, rfl, HD9.out, HK9.out, O2.out, HQU.out, fun h => by first | exact absurd h (by decide) | (have h1 := HQU.out; omega), by have := L7.out; omega⟩
                    · skip
                      go_wp2
                      go_roundg (os.length - (k + 1))
                      case measure => omega
                      case rel => exact ⟨k + 1, d2, false, by omega, rfl, by go_num, rfl, HD5.out, HK5.out, O2.out, HQU.out, fun h => by first | exact absurd h (by decide) | (have h1 := HQU.out; omega), by have := L7.out; omega⟩
                  · skip
                    by_cases hr : fc = 52
                    · subst hr
                      have H6 := Lib.hid (L6.out rfl)
                      go_wp2_with fail
                      refine (at_bool (b := true) (by rw [decide_eq_true_eq]; exact H6.out.symm) (same05_calls AB A5 cB c5 d.b d2.b w5 (by omega) (by omega) HRB5.out HR5.out)).mono ?_
                      rintro e w9 ⟨rfl, hq9⟩
                      have HD9 := Lib.hid (HD5.out.below (hq9.below _))
                      have HK9 := Lib.hid (HK5.out.quiet hq9)
                      clear hq9
                      go_wp2
                      go_roundg (os.length - (k + 1))
                      case measure => omega
                      case rel => exact ⟨k + 1, d2, false, by omega, rfl, by go_num, rfl, HD9.out, HK9.out, O2.out, HQU.out, fun h => by first | exact absurd h (by decide) | (have h1 := HQU.out; omega), by have := L7.out; omega⟩
                    · skip
                      go_wp2
                      go_roundg (os.length - (k + 1))
                      case measure => omega
                      case rel => exact ⟨k + 1, d2, false, by omega, rfl, by go_num, rfl, HD5.out, HK5.out, O2.out, HQU.out, fun h => by first | exact absurd h (by decide) | (have h1 := HQU.out; omega), by have := L7.out; omega⟩
          · skip
            cases ch
            · have hbg := begins_calls AB A5 cB c5 (d.b.take d.synced) d2.b w5 (by rw [HTK.out]; omega) (by omega) hc5 (HRB5.out.take _) HR5.out
              rw [HTK.out, decide_eq_true (L4.out rfl).1] at hbg
              have H4 := Lib.hid (L4.out rfl).2
              have HBG := Lib.hid hbg
              clear hbg
              go_wp2_with fail
              refine HBG.out.mono ?_
              rintro e w6 ⟨rfl, hq6⟩
              have HR6 := Lib.hid (HR5.out.quiet hq6)
              have HRA6 := Lib.hid (HRA5.out.quiet hq6)
              have HRB6 := Lib.hid (HRB5.out.quiet hq6)
              have HD6 := Lib.hid (HD5.out.below (hq6.below _))
              have HK6 := Lib.hid (HK5.out.quiet hq6)
              clear hq6
              go_wp2_with fail
              refine (at_bool (b := true) (decide_eq_true H4.out) (begins_calls A5 A2 c5 c2 d2.b all w6 (by omega) (by omega) hc2 HR6.out HRA6.out)).mono ?_
              rintro e w7 ⟨rfl, hq7⟩
              have HR7 := Lib.hid (HR6.out.quiet hq7)
              have HRB7 := Lib.hid (HRB6.out.quiet hq7)
              have HD7 := Lib.hid (HD6.out.below (hq7.below _))
              have HK7 := Lib.hid (HK6.out.quiet hq7)
              clear hq7
              as_aux_lemma =>
                by_cases hp : fc = 51
                · subst hp
                  have hpw := L5.out.1 rfl
                  have hdn := hpw.1
                  have hd2n := hpw.2
                  clear hpw
                  go_wp2_with fail
                  refine (devUp_calls w1.heap.size _ d2 w7 HD7.out).mono ?_
                  rintro e w9 ⟨rfl, rfl⟩
                  rw [hd2n]
                  go_wp2
                  go_roundg (os.length - (k + 1))
                  case measure => omega
                  case rel => exact ⟨k + 1, d2, true, by omega, rfl, by go_num, rfl, HD7.out, HK7.out, O2.out, HQU.out, fun h => by first | exact absurd h (by decide) | (have h1 := HQU.out; omega), by have := L7.out; omega⟩
                · cases hdn : d.down
                  · have hd2n : d2.down = false := by
                      cases h9 : d2.down with
                      | false => rfl
                      | true => exact absurd (L5.out.2 ⟨hdn, h9⟩) hp
                    go_wp2_with fail
                    refine (devUp_calls w1.heap.size _ d2 w7 HD7.out).mono ?_
                    rintro e w9 ⟨rfl, rfl⟩
                    rw [hd2n]
                    by_cases hr : fc = 52
                    · subst hr
                      have H6 := Lib.hid (L6.out rfl)
                      go_wp2_with fail
                      refine (at_bool (b := true) (by rw [decide_eq_true_eq]; exact H6.out.symm) (same05_calls AB A5 cB c5 d.b d2.b w7 (by omega) (by omega) HRB7.out HR7.out)).mono ?_
                      rintro e w9 ⟨rfl, hq9⟩
                      have HD9 := Lib.hid (HD7.out.below (hq9.below _))
                      have HK9 := Lib.hid (HK7.out.quiet hq9)
                      clear hq9
                      go_wp2
                      go_roundg (os.length - (k + 1))
                      case measure => omega
                      case rel => exact ⟨k + 1, d2, true, by omega, rfl, by go_num, rfl, HD9.out, HK9.out, O2.out, HQU.out, fun h => by first | exact absurd h (by decide) | (have h1 := HQU.out; omega), by have := L7.out; omega⟩
                    · skip
                      go_wp2
                      go_roundg (os.length - (k + 1))
                      case measure => omega
                      case rel => exact ⟨k + 1, d2, true, by omega, rfl, by go_num, rfl, HD7.out, HK7.out, O2.out, HQU.out, fun h => by first | exact absurd h (by decide) | (have h1 := HQU.out; omega), by have := L7.out; omega⟩
                  · skip
                    by_cases hr : fc = 52
                    · subst hr
                      have H6 := Lib.hid (L6.out rfl)
                      go_wp2_with fail
                      refine (at_bool (b := true) (by rw [decide_eq_true_eq]; exact H6.out.symm) (same05_calls AB A5 cB c5 d.b d2.b w7 (by omega) (by omega) HRB7.out HR7.out)).mono ?_
                      rintro e w9 ⟨rfl, hq9⟩
                      have HD9 := Lib.hid (HD7.out.below (hq9.below _))
                      have HK9 := Lib.hid (HK7.out.quiet hq9)
                      clear hq9
                      go_wp2
                      go_roundg (os.length - (k + 1))
                      case measure => omega
                      case rel => exact ⟨k + 1, d2, true, by omega, rfl, by go_num, rfl, HD9.out, HK9.out, O2.out, HQU.out, fun h => by first | exact absurd h (by decide) | (have h1 := HQU.out; omega), by have := L7.out; omega⟩
                    · skip
                      go_wp2
                      go_roundg (os.length - (k + 1))
                      case measure => omega
                      case rel => exact ⟨k + 1, d2, true, by omega, rfl, by go_num, rfl, HD7.out, HK7.out, O2.out, HQU.out, fun h => by first | exact absurd h (by decide) | (have h1 := HQU.out; omega), by have := L7.out; omega⟩
            · skip
              as_aux_lemma =>
                by_cases hp : fc = 51
                · subst hp
                  have hpw := L5.out.1 rfl
                  have hdn := hpw.1
                  have hd2n := hpw.2
                  clear hpw
                  go_wp2_with fail
                  refine (devUp_calls w1.heap.size _ d2 w5 HD5.out).mono ?_
                  rintro e w9 ⟨rfl, rfl⟩
                  rw [hd2n]
                  go_wp2
                  go_roundg (os.length - (k + 1))
                  case measure => omega
                  case rel => exact ⟨k + 1, d2, true, by omega, rfl, by go_num, rfl, HD5.out, HK5.out, O2.out, HQU.out, fun h => by first | exact absurd h (by decide) | (have h1 := HQU.out; omega), by have := L7.out; omega⟩
                · cases hdn : d.down
                  · have hd2n : d2.down = false := by
                      cases h9 : d2.down with
                      | false => rfl
                      | true => exact absurd (L5.out.2 ⟨hdn, h9⟩) hp
                    go_wp2_with fail
                    refine (devUp_calls w1.heap.size _ d2 w5 HD5.out).mono ?_
                    rintro e w9 ⟨rfl, rfl⟩
                    rw [hd2n]
                    by_cases hr : fc = 52
                    · subst hr
                      have H6 := Lib.hid (L6.out rfl)
                      go_wp2_with fail
                      refine (at_bool (b := true) (by rw [decide_eq_true_eq]; exact H6.out.symm) (same05_calls AB A5 cB c5 d.b d2.b w5 (by omega) (by omega) HRB5.out HR5.out)).mono ?_
                      rintro e w9 ⟨rfl, hq9⟩
                      have HD9 := Lib.hid (HD5.out.below (hq9.below _))
                      have HK9 := Lib.hid (HK5.out.quiet hq9)
                      clear hq9
                      go_wp2
                      go_roundg (os.length - (k + 1))
                      case measure => omega
                      case rel => exact ⟨k + 1, d2, true, by omega, rfl, by go_num, rfl, HD9.out, HK9.out, O2.out, HQU.out, fun h => by first | exact absurd h (by decide) | (have h1 := HQU.out; omega), by have := L7.out; omega⟩
                    · skip
                      go_wp2
                      go_roundg (os.length - (k + 1))
                      case measure => omega
                      case rel => exact ⟨k + 1, d2, true, by omega, rfl, by go_num, rfl, HD5.out, HK5.out, O2.out, HQU.out, fun h => by first | exact absurd h (by decide) | (have h1 := HQU.out; omega), by have := L7.out; omega⟩
                  · skip
                    by_cases hr : fc = 52
                    · subst hr
                      have H6 := Lib.hid (L6.out rfl)
                      go_wp2_with fail
                      refine (at_bool (b := true) (by rw [decide_eq_true_eq]; exact H6.out.symm) (same05_calls AB A5 cB c5 d.b d2.b w5 (by omega) (by omega) HRB5.out HR5.out)).mono ?_
                      rintro e w9 ⟨rfl, hq9⟩
                      have HD9 := Lib.hid (HD5.out.below (hq9.below _))
                      have HK9 := Lib.hid (HK5.out.quiet hq9)
                      clear hq9
                      go_wp2
                      go_roundg (os.length - (k + 1))
                      case measure => omega
                      case rel => exact ⟨k + 1, d2, true, by omega, rfl, by go_num, rfl, HD9.out, HK9.out, O2.out, HQU.out, fun h => by first | exact absurd h (by decide) | (have h1 := HQU.out; omega), by have := L7.out; omega⟩
                    · skip
                      go_wp2
                      go_roundg (os.length - (k + 1))
                      case measure => omega
                      case rel => exact ⟨k + 1, d2, true, by omega, rfl, by go_num, rfl, HD5.out, HK5.out, O2.out, HQU.out, fun h => by first | exact absurd h (by decide) | (have h1 := HQU.out; omega), by have := L7.out; omega⟩
    · go_wp2
      go_ret
      exact ⟨rfl, HK.out.below⟩
end Go.Proofs.Ytnfefjlplipeiab
