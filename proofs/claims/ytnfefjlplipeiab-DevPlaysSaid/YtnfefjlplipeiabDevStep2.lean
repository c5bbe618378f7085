/-
  The walk of the law's step at a writing, at a reading, at a look, at any other kind. Condition: both files stand for the same machine ahead of it, in blocks that lie apart.
-/
import Derived.Test.YtnfefjlplipeiabDevStep
namespace Go.Proofs.Ytnfefjlplipeiab
open Go.RowKit Go.BigFrame
set_option linter.unusedVariables false
set_option linter.unusedSimpArgs false

theorem Reads.keepR {F : Nat → Prop} {w w' : World} {A : Option Addr} {l : List UInt8} (h : Reads w A l) (ht : Touch F w w') (hF : ∀ a, A = some a → l ≠ [] → ¬ F a.block) : Reads w' A l := ht.reads h hF
/-- a row that is the call's own can be filled -/
structure Filled (w0 wr : World) (gi n c k : Nat) : Prop where
  ex : ∃ l, l.length = n ∧ OwnL 5 wr w0.heap.size (.slice (some ⟨gi, 0, none⟩) n c) l ∧ Touch (At gi) w0 wr

set_option maxRecDepth 100000 in
set_option maxHeartbeats 1000000 in
theorem step_none (gd gr : Nat) (T : Nat → Prop) (x : Dv) (o : Op) (A : Option Addr) (c : Nat) (w : World) (hb : Both w T gd gr x) (hx : x.Roomy) (hf : o.Fits) (hr : Reads w A o.b) (hA : ∀ a, A = some a → o.b ≠ [] → ¬ T a.block) (hl : o.b.length ≤ 140737488351232) (hk : o.kind ≠ 1 ∧ o.kind ≠ 2 ∧ o.kind ≠ 3 ∧ o.kind ≠ 4 ∧ o.kind ≠ 5 ∧ o.kind ≠ 6 ∧ o.kind ≠ 7 ∧ o.kind ≠ 8 ∧ o.kind ≠ 9) :
    Calls Try.prog 40 #[.pointer (some ⟨gd, 0, none⟩), .pointer (some ⟨gr, 0, none⟩), opVal o A c] w (StepPost w T gd gr x o) := by
  obtain ⟨S1, S2, h1, h2, hdis, hT⟩ := hb
  have HX := Lib.hid hx
  have HF := Lib.hid hf
  have HR := Lib.hid hr
  have HAT := Lib.hid hA
  have H1 := Lib.hid h1
  have H2 := Lib.hid h2
  have HDIS := Lib.hid hdis
  have HT := Lib.hid hT
  have hdd := hx.deeds
  have hcc := hx.counted
  have HK1 := Lib.hid (show Keeps w (w.alloc (.cells #[.int .i64 o.kind, .int .i64 o.n, .int .i64 o.m, .slice A o.b.length c] 45)) from (Keeps.refl w).alloc _)
  have HN1 := Lib.hid (obj_new w (.cells #[.int .i64 o.kind, .int .i64 o.n, .int .i64 o.m, .slice A o.b.length c] 45))
  clear hx hf hr hA h1 h2 hdis hT
  unfold opVal StepPost
  obtain ⟨k1, k2, k3, k4, k5, k6, k7, k8, k9⟩ := hk
  have HP := Lib.hid (show x.play o = x by unfold Dv.play Dv.keep; rw [if_neg k4, if_neg k1, if_neg k2, if_neg k3, if_neg k5, if_neg k6, if_neg k7, if_neg k8])
  rw [HP.out]
  have HB := Lib.hid (show Both w T gd gr x from ⟨S1, S2, H1.out, H2.out, HDIS.out, HT.out⟩)
  go_enter Try.func40, Try.ntmps40
  go_wp2
  go_ret
  exact ⟨ret_bool (by simp), (HB.out.below HK1.out.below).mono fun _ _ h => .inl h, Touch.of_below HK1.out.below fun k hk h => absurd hk (by omega)⟩

set_option maxRecDepth 100000 in
set_option maxHeartbeats 1000000 in
theorem step_look (gd gr : Nat) (T : Nat → Prop) (x : Dv) (o : Op) (A : Option Addr) (c : Nat) (w : World) (hb : Both w T gd gr x) (hx : x.Roomy) (hf : o.Fits) (hr : Reads w A o.b) (hA : ∀ a, A = some a → o.b ≠ [] → ¬ T a.block) (hl : o.b.length ≤ 140737488351232) (hk : o.kind = 9) :
    Calls Try.prog 40 #[.pointer (some ⟨gd, 0, none⟩), .pointer (some ⟨gr, 0, none⟩), opVal o A c] w (StepPost w T gd gr x o) := by
  obtain ⟨S1, S2, h1, h2, hdis, hT⟩ := hb
  have HX := Lib.hid hx
  have HF := Lib.hid hf
  have HR := Lib.hid hr
  have HAT := Lib.hid hA
  have H1 := Lib.hid h1
  have H2 := Lib.hid h2
  have HDIS := Lib.hid hdis
  have HT := Lib.hid hT
  have hdd := hx.deeds
  have hcc := hx.counted
  have HK1 := Lib.hid (show Keeps w (w.alloc (.cells #[.int .i64 o.kind, .int .i64 o.n, .int .i64 o.m, .slice A o.b.length c] 45)) from (Keeps.refl w).alloc _)
  have HN1 := Lib.hid (obj_new w (.cells #[.int .i64 o.kind, .int .i64 o.n, .int .i64 o.m, .slice A o.b.length c] 45))
  clear hx hf hr hA h1 h2 hdis hT
  unfold opVal StepPost
  have HP := Lib.hid (show x.play o = x by unfold Dv.play Dv.keep; rw [if_neg (by omega), if_neg (by omega), if_neg (by omega), if_neg (by omega), if_neg (by omega), if_neg (by omega), if_neg (by omega), if_neg (by omega)])
  rw [HP.out]
  rw [hk] at HK1 HN1
  have HB := Lib.hid (show Both w T gd gr x from ⟨S1, S2, H1.out, H2.out, HDIS.out, HT.out⟩)
  go_enter Try.func40, Try.ntmps40
  go_wp2_with fail
  refine (looks_calls gd gr S1 S2 x _ (H1.out.below HK1.out.below) (H2.out.below HK1.out.below) HX.out.ok).mono ?_
  rintro e w2 ⟨rfl, hk2⟩
  have HK2 := Lib.hid (HK1.out.trans hk2)
  clear hk2
  go_wp2
  go_ret
  exact ⟨rfl, (HB.out.below HK2.out.below).mono fun _ _ h => .inl h, Touch.of_below HK2.out.below fun k hk h => absurd hk (by omega)⟩

set_option maxRecDepth 100000 in
set_option maxHeartbeats 1000000 in
theorem step_write (gd gr : Nat) (T : Nat → Prop) (x : Dv) (o : Op) (A : Option Addr) (c : Nat) (w : World) (hb : Both w T gd gr x) (hx : x.Roomy) (hf : o.Fits) (hr : Reads w A o.b) (hA : ∀ a, A = some a → o.b ≠ [] → ¬ T a.block) (hl : o.b.length ≤ 140737488351232) (hk : o.kind = 1) :
    Calls Try.prog 40 #[.pointer (some ⟨gd, 0, none⟩), .pointer (some ⟨gr, 0, none⟩), opVal o A c] w (StepPost w T gd gr x o) := by
  obtain ⟨S1, S2, h1, h2, hdis, hT⟩ := hb
  have HX := Lib.hid hx
  have HF := Lib.hid hf
  have HR := Lib.hid hr
  have HAT := Lib.hid hA
  have H1 := Lib.hid h1
  have H2 := Lib.hid h2
  have HDIS := Lib.hid hdis
  have HT := Lib.hid hT
  have hdd := hx.deeds
  have hcc := hx.counted
  have HK1 := Lib.hid (show Keeps w (w.alloc (.cells #[.int .i64 o.kind, .int .i64 o.n, .int .i64 o.m, .slice A o.b.length c] 45)) from (Keeps.refl w).alloc _)
  have HN1 := Lib.hid (obj_new w (.cells #[.int .i64 o.kind, .int .i64 o.n, .int .i64 o.m, .slice A o.b.length c] 45))
  clear hx hf hr hA h1 h2 hdis hT
  unfold opVal StepPost
  have HP := Lib.hid (show x.play o = (x.write o.b).1 by unfold Dv.play Dv.keep; rw [if_neg (by omega), if_pos hk])
  rw [HP.out]
  rw [hk] at HK1 HN1
  go_enter Try.func40, Try.ntmps40
  go_wp2_with (at_builtin; refine wpList_append_loose (w.heap.size + 1) rfl _ _ 22 5 rfl Try.underlying22 info_u8 (.slice (some ⟨w.heap.size + 1, 0, none⟩) 0 0) [] o.b rfl ?c0 A c rfl ?c1 ?c2 ?c3 ?_)
  case c0 => exact OwnL.empty _ _ _ _
  case c1 => exact (HR.out.below HK1.out.below).below ((Below.refl _ _).alloc (Nat.le_refl _) _)
  case c2 => simp; omega
  case c3 => simp
  intro v2 w2 hown hgr hat
  have hk2 : Keeps w w2 := (HK1.out.alloc _).trans' hgr (fun j hj => by rw [blk_empty] at hj; cases hj)
  have hbx2 := hgr.block w.heap.size (by simp; omega) (by rw [blk_empty]; exact fun h => by cases h)
  rw [obj_old HN1.out _] at hbx2
  obtain ⟨A2, c2, rfl, hc2, _⟩ := hown.form
  have hlow : ∀ j, blk (.slice A2 o.b.length c2) = some j → w.heap.size + 1 ≤ j := fun j hj => (hown.lt j hj).1
  have hrow : ∀ a, A2 = some a → o.b ≠ [] → w.heap.size + 1 ≤ a.block := fun a e hn => by
    obtain ⟨g0, c0, e1, h1, _, _, _⟩ := hown.block (List.length_pos_iff.2 hn)
    injection e1 with e1
    rw [e] at e1
    injection e1 with e1
    rw [e1]
    exact h1
  have x3 : w2.cell? ⟨w.heap.size, 3, none⟩ = some (.slice A o.b.length c) := by rw [obj_cell hbx2]; rfl
  have HO2 := Lib.hid hown
  have HK2 := Lib.hid hk2
  have HBX2 := Lib.hid hbx2
  have HLOW := Lib.hid hlow
  have HROW := Lib.hid hrow
  have hs2 := hk2.size
  clear hown hgr hat hk2 hbx2 hlow hrow
  go_wp2_with fail
  refine (write_calls gd S1 x A2 c2 o.b w2 (H1.out.below HK2.out.below) HX.out.ok HO2.out.reads (fun a e hn h => by have := HROW.out a e hn; have := (HT.out _ (.inl h)).2; omega) (by omega) (by omega)).mono ?_
  rintro e w3 ⟨rfl, d3, t3⟩
  have hbx3 := t3.obj HBX2.out (fun h => by have := (HT.out _ (.inl h)).2; omega)
  have y3 : w3.cell? ⟨w.heap.size, 3, none⟩ = some (.slice A o.b.length c) := by rw [obj_cell hbx3]; rfl
  have HD3 := Lib.hid d3
  have HT3 := Lib.hid t3
  have HR3 := Lib.hid ((H2.out.below HK2.out.below).keep t3 fun k _ h h' => HDIS.out k h' h)
  have HO3 := Lib.hid (HO2.out.keep t3 fun j hj h => by have := HLOW.out j hj; have := (HT.out _ (.inl h)).2; omega)
  have HBX3 := Lib.hid hbx3
  have HRB3 := Lib.hid ((HR.out.below HK2.out.below).keepR t3 fun a e hn h => HAT.out a e hn (HT.out _ (.inl h)).1)
  clear d3 t3 hbx3 x3
  go_wp2_with fail
  refine (refWrite_calls gr S2 x A c o.b w3 HR3.out HX.out.ok HRB3.out (fun a e hn h => HAT.out a e hn (HT.out _ (.inr h)).1) (by omega) (by omega)).mono ?_
  rintro e w4 ⟨rfl, r4, t4⟩
  have hbx4 := t4.obj HBX3.out (fun h => by have := (HT.out _ (.inr h)).2; omega)
  have z3 : w4.cell? ⟨w.heap.size, 3, none⟩ = some (.slice A o.b.length c) := by rw [obj_cell hbx4]; rfl
  have hT2 : ∀ k, S1 k ∨ S2 k → (T k ∧ k < w.heap.size) ∧ k < w2.heap.size := fun k hk => ⟨HT.out k hk, by have := (HT.out k hk).2; omega⟩
  have HB4 := Lib.hid (Both.step (T := fun k => T k ∧ k < w.heap.size) HDIS.out hT2 HD3.out HT3.out r4 t4)
  have HO4 := Lib.hid (HO3.out.keep t4 fun j hj h => by have := HLOW.out j hj; have := (HT.out _ (.inr h)).2; omega)
  have HRB4 := Lib.hid (HRB3.out.keepR t4 fun a e hn h => HAT.out a e hn (HT.out _ (.inr h)).1)
  clear r4 t4 hbx4 y3 hT2 HD3 HT3 HR3
  go_wp2_with fail
  refine (at_bool (b := true) (decide_eq_true rfl) (same05_calls A2 A c2 c o.b o.b w4 (by omega) (by omega) HO4.out.reads HRB4.out)).mono ?_
  rintro e w5 ⟨rfl, hq5⟩
  have HO5 := Lib.hid (HO4.out.below (hq5.below _))
  have HUP := Lib.hid (show ∀ j, blk (.slice A2 o.b.length c2) = some j → j < w2.heap.size from fun j hj => (HO2.out.lt j hj).2)
  have HB5 := Lib.hid (HB4.out.1.below (hq5.below _))
  have HT5 := Lib.hid (HB4.out.2.quiet hq5)
  clear hq5 HB4 HO4 HO3 HRB4 HRB3 HBX3 HBX2 HO2 HROW z3
  go_wp2
  go_loopw [10] (fun i wr => ∃ (k : Nat) (l' : List UInt8), k ≤ o.b.length ∧ i = .int .i64 (k : Int) ∧ OwnL 5 wr (w.heap.size + 1) (.slice A2 o.b.length c2) l' ∧ l'.length = o.b.length ∧ Touch (fun j => blk (.slice A2 o.b.length c2) = some j) w5 wr) (fun i _ => o.b.length - (intOf i).toNat)
  case atStart => exact ⟨0, _, Nat.zero_le _, rfl, HO5.out, rfl, Touch.refl _ _⟩
  case round =>
    obtain ⟨k, l', hk, rfl, ho, hll, ht⟩ := hrel
    have HT6 := Lib.hid ht
    have HLL := Lib.hid hll
    by_cases hlt : k < o.b.length
    · obtain ⟨g0, cc, e1, _, hg0, _, hblk⟩ := ho.block (by omega)
      injection e1 with e1 e2 e3
      subst e1
      obtain ⟨hst, hce, hfr⟩ := OwnL.store (l := l') (g := g0) (c := c2) (by rw [hll]; exact ho) k (by omega) 99
      rw [hll] at hst
      have HST := Lib.hid hst
      have HBLK := Lib.hid hblk
      obtain ⟨y, hy⟩ : ∃ y, wr.cell? ⟨g0, k, none⟩ = some y := ⟨_, hce⟩
      have i1 : (0 : Int) ≤ (k : Int) := Int.natCast_nonneg _
      have i2 : (k : Int) < ((o.b.length : Nat) : Int) := by omega
      clear hce ho hll ht hst hblk e2 e3
      go_wp2
      exact ⟨⟨k + 1, l'.set k 99, by omega, by go_num, HST.out, by rw [List.length_set]; exact HLL.out, HT6.out.setCell _ _ fun _ => HBLK.out⟩, by simp [intOf]; omega⟩
    · have i2 : ¬ (k : Int) < ((o.b.length : Nat) : Int) := by omega
      clear ho hll ht
      go_wp2
      go_ret
      refine ⟨ret_bool (by simp), (HB5.out.keep HT6.out fun j hj h hb => ?_).mono fun j _ h => ?_, ?_⟩
      · rcases h with h | h
        · have := HLOW.out j hb; omega
        · have := HUP.out j hb; omega
      · rcases h with h | h
        · exact .inl h.1
        · exact .inr (by omega)
      · refine ((Touch.of_below (F := T) HK2.out.below fun k hk h => absurd hk (by omega)).trans HT5.out fun k hk h => h.1).trans HT6.out fun k hk h => ?_
        have := HLOW.out k h
        omega

set_option maxRecDepth 100000 in
set_option maxHeartbeats 1000000 in
theorem step_read (gd gr : Nat) (T : Nat → Prop) (x : Dv) (o : Op) (A : Option Addr) (c : Nat) (w : World) (hb : Both w T gd gr x) (hx : x.Roomy) (hf : o.Fits) (hr : Reads w A o.b) (hA : ∀ a, A = some a → o.b ≠ [] → ¬ T a.block) (hl : o.b.length ≤ 140737488351232) (hk : o.kind = 4) :
    Calls Try.prog 40 #[.pointer (some ⟨gd, 0, none⟩), .pointer (some ⟨gr, 0, none⟩), opVal o A c] w (StepPost w T gd gr x o) := by
  obtain ⟨S1, S2, h1, h2, hdis, hT⟩ := hb
  have HX := Lib.hid hx
  have HF := Lib.hid hf
  have HR := Lib.hid hr
  have HAT := Lib.hid hA
  have H1 := Lib.hid h1
  have H2 := Lib.hid h2
  have HDIS := Lib.hid hdis
  have HT := Lib.hid hT
  have hdd := hx.deeds
  have hcc := hx.counted
  have HK1 := Lib.hid (show Keeps w (w.alloc (.cells #[.int .i64 o.kind, .int .i64 o.n, .int .i64 o.m, .slice A o.b.length c] 45)) from (Keeps.refl w).alloc _)
  have HN1 := Lib.hid (obj_new w (.cells #[.int .i64 o.kind, .int .i64 o.n, .int .i64 o.m, .slice A o.b.length c] 45))
  clear hx hf hr hA h1 h2 hdis hT
  unfold opVal StepPost
  have HP := Lib.hid (show x.play o = (x.read o.n o.m).1 by unfold Dv.play; rw [if_pos hk])
  rw [HP.out]
  rw [hk] at HK1 HN1
  go_enter Try.func40, Try.ntmps40
  go_wp2_with fail
  refine (devRead_calls gd S1 x o.n o.m _ (H1.out.below HK1.out.below) HX.out.ok (by omega) HF.out.m.2).mono ?_
  rintro e w2 ⟨v2, rfl, ho2, d2, t2⟩
  obtain ⟨A2, c2, rfl, _⟩ := ho2.form
  have hbx2 := t2.obj HN1.out (fun h => by have := (HT.out _ (.inl h)).2; omega)
  have y1 : w2.cell? ⟨w.heap.size, 1, none⟩ = some (.int .i64 o.n) := by rw [obj_cell hbx2]; rfl
  have y2 : w2.cell? ⟨w.heap.size, 2, none⟩ = some (.int .i64 o.m) := by rw [obj_cell hbx2]; rfl
  obtain ⟨l2, hl2⟩ : ∃ l2, l2 = (x.read o.n o.m).2.1 := ⟨_, rfl⟩
  have hll2 : l2.length ≤ 2097152 := by
    rw [hl2]
    unfold Dv.read
    split
    · simp
    · have := HX.out.ok.size
      simp only [List.length_take, List.length_drop]
      omega
  rw [← hl2] at ho2 ⊢
  have HL2 := Lib.hid hl2
  have hlow : ∀ j, blk (.slice A2 l2.length c2) = some j → w.heap.size + 1 ≤ j ∧ j < w2.heap.size := fun j hj => by have := ho2.lt j hj; simp at this; omega
  have HLOW := Lib.hid hlow
  have HO2 := Lib.hid ho2
  have HD2 := Lib.hid d2
  have HT2 := Lib.hid t2
  have HR2 := Lib.hid ((H2.out.below HK1.out.below).keep t2 fun k _ h h' => HDIS.out k h' h)
  have hs2 := t2.size
  clear hl2 hlow ho2 d2 t2 hbx2
  go_wp2_with fail
  refine (refRead_calls gr S2 x o.n o.m w2 HR2.out HX.out.ok (by omega) HF.out.m.2).mono ?_
  rintro e w3 ⟨v3, rfl, ho3, r3, t3⟩
  rw [← HL2.out] at ho3
  obtain ⟨A3, c3, rfl, _⟩ := ho3.form
  have HO3 := Lib.hid ho3
  have HOA := Lib.hid (HO2.out.keep t3 fun j hj h => by have := (HLOW.out j hj).1; have := (HT.out _ (.inr h)).2; omega)
  have HB3 := Lib.hid (show Both w3 T gd gr (x.read o.n o.m).1 from ⟨S1, S2, HD2.out.keep t3 (fun k _ h h' => HDIS.out k h h'), r3, HDIS.out, fun k hk => ⟨(HT.out k hk).1, by have := (HT.out k hk).2; have := t3.size; simp at hs2; omega⟩⟩)
  have HT3 := Lib.hid (show Touch T w w3 from ((Touch.of_below (F := T) HK1.out.below fun k hk h => absurd hk (by omega)).trans HT2.out fun k _ h => (HT.out k (.inl h)).1).trans t3 fun k _ h => (HT.out k (.inr h)).1)
  have HTS := Lib.hid (show ∀ j, blk (.slice A2 l2.length c2) = some j → ¬ S1 j ∧ ¬ S2 j from fun j hj => ⟨fun h => by have := (HLOW.out j hj).1; have := (HT.out _ (.inl h)).2; omega, fun h => by have := (HLOW.out j hj).1; have := (HT.out _ (.inr h)).2; omega⟩)
  have HBX := Lib.hid (show ∃ S1 S2, DV w3 S1 gd (x.read o.n o.m).1 ∧ RV w3 S2 gr (x.read o.n o.m).1 ∧ (∀ k, S1 k → ¬ S2 k) ∧ (∀ k, S1 k ∨ S2 k → T k ∧ k < w.heap.size) from ⟨S1, S2, HD2.out.keep t3 (fun k _ h h' => HDIS.out k h h'), r3, HDIS.out, HT.out⟩)
  clear ho3 r3 t3 HD2 HT2 HR2 HO2
  go_wp2_with fail
  refine (at_bool (b := true) (decide_eq_true rfl) (same05_calls A2 A3 c2 c3 l2 l2 w3 (by omega) (by omega) HOA.out.reads HO3.out.reads)).mono ?_
  rintro e w5 ⟨rfl, hq5⟩
  have HO5 := Lib.hid (HOA.out.below (hq5.below _))
  have HT5 := Lib.hid (HT3.out.quiet hq5)
  have HQ5 := Lib.hid hq5
  clear hq5 HOA HO3 HT3
  have HO5z := Lib.hid (HO5.out.lower 0 (Nat.zero_le _))
  obtain ⟨rc, hrc⟩ : ∃ rc, rc = (x.read o.n o.m).2.2 := ⟨_, rfl⟩
  rw [← hrc]
  clear hrc HO5
  go_wp2
  go_loopw [16] (fun i wr => ∃ (k : Nat) (l' : List UInt8), k ≤ l2.length ∧ i = .int .i64 (k : Int) ∧ OwnL 5 wr 0 (.slice A2 l2.length c2) l' ∧ l'.length = l2.length ∧ Touch (fun j => blk (.slice A2 l2.length c2) = some j) w5 wr) (fun i _ => l2.length - (intOf i).toNat)
  case atStart => exact ⟨0, _, Nat.zero_le _, rfl, HO5z.out, rfl, Touch.refl _ _⟩
  case round =>
    obtain ⟨k, l', hk, rfl, ho, hll, ht⟩ := hrel
    have HT6 := Lib.hid ht
    have HLL := Lib.hid hll
    by_cases hlt : k < l2.length
    · obtain ⟨g0, cc, e1, _, hg0, _, hblk⟩ := ho.block (by omega)
      injection e1 with e1 e2 e3
      subst e1
      obtain ⟨hst, hce, hfr⟩ := OwnL.store (l := l') (g := g0) (c := c2) (by rw [hll]; exact ho) k (by omega) 98
      rw [hll] at hst
      have HST := Lib.hid hst
      have HBLK := Lib.hid hblk
      obtain ⟨y, hy⟩ : ∃ y, wr.cell? ⟨g0, k, none⟩ = some y := ⟨_, hce⟩
      have i1 : (0 : Int) ≤ (k : Int) := Int.natCast_nonneg _
      have i2 : (k : Int) < ((l2.length : Nat) : Int) := by omega
      clear hce ho hll ht hst hblk e2 e3
      go_wp2
      exact ⟨⟨k + 1, l'.set k 98, by omega, by go_num, HST.out, by rw [List.length_set]; exact HLL.out, HT6.out.setCell _ _ fun _ => HBLK.out⟩, by simp [intOf]; omega⟩
    · have i2 : ¬ (k : Int) < ((l2.length : Nat) : Int) := by omega
      clear ho hll ht
      go_wp2
      go_ret
      refine ⟨ret_bool (by simp), ?_, (HT5.out.trans (G := fun j => blk (.slice A2 l2.length c2) = some j) HT6.out fun k hk h => ?_)⟩
      · obtain ⟨U1, U2, b1, b2, b3, b4⟩ := HBX.out
        have q1 := (b1.below (HQ5.out.below _)).keep HT6.out fun k _ h h' => by have := (b4 k (.inl h)).2; have := (HLOW.out k h').1; omega
        have q2 := (b2.below (HQ5.out.below _)).keep HT6.out fun k _ h h' => by have := (b4 k (.inr h)).2; have := (HLOW.out k h').1; omega
        have hsz := HT5.out.size
        have hsz2 := HT6.out.size
        exact ⟨U1, U2, q1, q2, b3, fun k hk => ⟨.inl (b4 k hk).1, by have := (b4 k hk).2; omega⟩⟩
      · have := (HLOW.out k h).1
        omega
end Go.Proofs.Ytnfefjlplipeiab
