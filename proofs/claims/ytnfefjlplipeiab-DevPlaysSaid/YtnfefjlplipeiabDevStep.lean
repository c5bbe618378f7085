/-
  The walk of the law's step, but for writing and reading: both files stand for the same machine behind it. Condition: they stand for the same machine ahead of it, in blocks that lie apart.
-/
import Derived.Test.YtnfefjlplipeiabDevStir
import Derived.Test.YtnfefjlplipeiabDevBegins
namespace Go.Proofs.Ytnfefjlplipeiab
open Go.RowKit Go.BigFrame
set_option linter.unusedVariables false
set_option linter.unusedSimpArgs false

/-- both files stand for the machine, in blocks of T that lie apart -/
def Both (w : World) (T : Nat → Prop) (gd gr : Nat) (x : Dv) : Prop :=
  ∃ S1 S2, DV w S1 gd x ∧ RV w S2 gr x ∧ (∀ k, S1 k → ¬ S2 k) ∧ ∀ k, S1 k ∨ S2 k → T k ∧ k < w.heap.size
theorem Both.keep {w w' : World} {T F : Nat → Prop} {gd gr : Nat} {x : Dv} (h : Both w T gd gr x) (ht : Touch F w w') (hF : ∀ k, k < w.heap.size → T k → ¬ F k) : Both w' T gd gr x := by
  obtain ⟨S1, S2, h1, h2, h3, h4⟩ := h
  exact ⟨S1, S2, h1.keep ht fun k hk hs => hF k hk (h4 k (.inl hs)).1, h2.keep ht fun k hk hs => hF k hk (h4 k (.inr hs)).1, h3, fun k hk => ⟨(h4 k hk).1, Nat.lt_of_lt_of_le (h4 k hk).2 ht.size⟩⟩
theorem Both.below {w w' : World} {T : Nat → Prop} {gd gr : Nat} {x : Dv} (h : Both w T gd gr x) (hb : Below w.heap.size w w') : Both w' T gd gr x :=
  h.keep (F := fun _ => False) (Touch.of_below hb fun k hk hb => absurd hk (by omega)) fun _ _ _ h => h
theorem Both.mono {w : World} {T U : Nat → Prop} {gd gr : Nat} {x : Dv} (h : Both w T gd gr x) (hT : ∀ k, k < w.heap.size → T k → U k) : Both w U gd gr x := by
  obtain ⟨S1, S2, h1, h2, h3, h4⟩ := h
  exact ⟨S1, S2, h1, h2, h3, fun k hk => ⟨hT k (h4 k hk).2 (h4 k hk).1, (h4 k hk).2⟩⟩
/-- one did it, then the other -/
theorem Both.step {w w' w'' : World} {T S1 S2 : Nat → Prop} {gd gr : Nat} {x' : Dv} (hd : ∀ k, S1 k → ¬ S2 k) (hT : ∀ k, S1 k ∨ S2 k → T k ∧ k < w.heap.size) (d1 : DV w' (More S1 w) gd x') (t1 : Touch S1 w w') (r1 : RV w'' (More S2 w') gr x') (t2 : Touch S2 w' w'') :
    Both w'' (More T w) gd gr x' ∧ Touch T w w'' := by
  have hs := t1.size
  have hs2 := t2.size
  refine ⟨⟨fun k => More S1 w k ∧ k < w'.heap.size, fun k => More S2 w' k ∧ k < w''.heap.size, ?_, r1.here, ?_, ?_⟩, (t1.mono fun k _ h => (hT k (.inl h)).1).trans t2 fun k hk h => (hT k (.inr h)).1⟩
  · exact d1.here.keep t2 fun k hk h h2 => by
      rcases h.1 with h | h
      · exact hd k h h2
      · have := (hT k (.inr h2)).2; omega
  · rintro k ⟨h1 | h1, h1'⟩ ⟨h2 | h2, h2'⟩
    · exact hd k h1 h2
    · omega
    · have := (hT k (.inr h2)).2; omega
    · omega
  · rintro k (⟨h | h, h'⟩ | ⟨h | h, h'⟩)
    · exact ⟨.inl (hT k (.inl h)).1, by omega⟩
    · exact ⟨.inr h, by omega⟩
    · exact ⟨.inl (hT k (.inr h)).1, by omega⟩
    · exact ⟨.inr (by omega), by omega⟩
theorem More.drop {T : Nat → Prop} {w w1 : World} (hs : w.heap.size ≤ w1.heap.size) {k : Nat} (h : More T w1 k) : More T w k := h.elim .inl fun h => .inr (Nat.le_trans hs h)

/-- what a step does -/
def Dv.play (d : Dv) (o : Op) : Dv := if o.kind = 4 then (d.read o.n o.m).1 else (d.keep o).1
def opVal (o : Op) (A : Option Addr) (c : Nat) : Value := .agg #[.int .i64 o.kind, .int .i64 o.n, .int .i64 o.m, .slice A o.b.length c]
def StepPost (w : World) (T : Nat → Prop) (gd gr : Nat) (x : Dv) (o : Op) (e : Ending) (w' : World) : Prop :=
  e = .returned (.bool true) ∧ Both w' (More T w) gd gr (x.play o) ∧ Touch T w w'

theorem step_end {w w1 w' : World} {T : Nat → Prop} {gd gr : Nat} {x : Dv} (hk : Keeps w w1) (h : Both w' (More T w1) gd gr x ∧ Touch T w1 w') : Both w' (More T w) gd gr x ∧ Touch T w w' :=
  ⟨h.1.mono fun k _ h => h.drop hk.size, (Touch.of_below (F := T) hk.below fun k hk h => absurd hk (by omega)).then h.2⟩

set_option maxRecDepth 100000 in
set_option maxHeartbeats 1000000 in
theorem step_sync (gd gr : Nat) (T : Nat → Prop) (x : Dv) (o : Op) (A : Option Addr) (c : Nat) (w : World) (hb : Both w T gd gr x) (hx : x.Roomy) (hf : o.Fits) (hr : Reads w A o.b) (hA : ∀ a, A = some a → o.b ≠ [] → ¬ T a.block) (hl : o.b.length ≤ 140737488351232) (hk : o.kind = 2) :
    Calls Try.prog 40 #[.pointer (some ⟨gd, 0, none⟩), .pointer (some ⟨gr, 0, none⟩), opVal o A c] w (StepPost w T gd gr x o) := by
  obtain ⟨S1, S2, h1, h2, hdis, hT⟩ := hb
  have HX := Lib.hid hx
  have HF := Lib.hid hf
  have HR := Lib.hid hr
  have HAT := Lib.hid hA
  have H1 := Lib.hid h1
  have H2 := Lib.hid h2
  have HDIS := Lib.hid hdis
  have HT := Lib.hid hT
  have hdd := hx.deeds
  have hcc := hx.counted
  have HK1 := Lib.hid (show Keeps w (w.alloc (.cells #[.int .i64 o.kind, .int .i64 o.n, .int .i64 o.m, .slice A o.b.length c] 45)) from (Keeps.refl w).alloc _)
  have HN1 := Lib.hid (obj_new w (.cells #[.int .i64 o.kind, .int .i64 o.n, .int .i64 o.m, .slice A o.b.length c] 45))
  clear hx hf hr hA h1 h2 hdis hT
  unfold opVal StepPost
  have HP := Lib.hid (show x.play o = (x.sync).1 by unfold Dv.play Dv.keep; rw [if_neg (by omega), if_neg (by omega), if_pos hk])
  rw [HP.out]
  rw [hk] at HK1 HN1
  go_enter Try.func40, Try.ntmps40
  go_wp2_with fail
  refine (devSync_calls gd _ x _ (H1.out.below HK1.out.below)).mono ?_
  rintro e w2 ⟨rfl, d2, t2⟩
  have hbx := t2.obj (show (w.alloc (.cells #[.int .i64 2, .int .i64 o.n, .int .i64 o.m, .slice A o.b.length c] 45)).heap[w.heap.size]? = _ from HN1.out) (fun h => by have := (HT.out _ (.inl h)).2; omega)
  have x0 : w2.cell? ⟨w.heap.size, 0, none⟩ = some (.int .i64 2) := by rw [obj_cell hbx]; rfl
  have x1 : w2.cell? ⟨w.heap.size, 1, none⟩ = some (.int .i64 o.n) := by rw [obj_cell hbx]; rfl
  have x2 : w2.cell? ⟨w.heap.size, 2, none⟩ = some (.int .i64 o.m) := by rw [obj_cell hbx]; rfl
  have x3 : w2.cell? ⟨w.heap.size, 3, none⟩ = some (.slice A o.b.length c) := by rw [obj_cell hbx]; rfl
  have HD2 := Lib.hid d2
  have HT2 := Lib.hid t2
  have HR2 := Lib.hid ((H2.out.below HK1.out.below).keep t2 fun k _ h h' => HDIS.out k h' h)
  clear hbx d2 t2
  go_wp2_with fail
  refine (refSync_calls gr _ x _ HR2.out).mono ?_
  rintro e w3 ⟨rfl, r3, t3⟩
  have hT1 : ∀ k, S1 k ∨ S2 k → T k ∧ k < (w.alloc (.cells #[.int .i64 2, .int .i64 o.n, .int .i64 o.m, .slice A o.b.length c] 45)).heap.size := fun k hk => ⟨(HT.out k hk).1, by have := (HT.out k hk).2; simp; omega⟩
  have hfin := step_end HK1.out (Both.step HDIS.out hT1 HD2.out HT2.out r3 t3)
  have HFIN := Lib.hid hfin
  clear hT1 hfin r3 t3
  go_wp2
  go_ret
  exact ⟨ret_bool (by simp), HFIN.out⟩

set_option maxRecDepth 100000 in
set_option maxHeartbeats 1000000 in
theorem step_cut (gd gr : Nat) (T : Nat → Prop) (x : Dv) (o : Op) (A : Option Addr) (c : Nat) (w : World) (hb : Both w T gd gr x) (hx : x.Roomy) (hf : o.Fits) (hr : Reads w A o.b) (hA : ∀ a, A = some a → o.b ≠ [] → ¬ T a.block) (hl : o.b.length ≤ 140737488351232) (hk : o.kind = 3) :
    Calls Try.prog 40 #[.pointer (some ⟨gd, 0, none⟩), .pointer (some ⟨gr, 0, none⟩), opVal o A c] w (StepPost w T gd gr x o) := by
  obtain ⟨S1, S2, h1, h2, hdis, hT⟩ := hb
  have HX := Lib.hid hx
  have HF := Lib.hid hf
  have HR := Lib.hid hr
  have HAT := Lib.hid hA
  have H1 := Lib.hid h1
  have H2 := Lib.hid h2
  have HDIS := Lib.hid hdis
  have HT := Lib.hid hT
  have hdd := hx.deeds
  have hcc := hx.counted
  have HK1 := Lib.hid (show Keeps w (w.alloc (.cells #[.int .i64 o.kind, .int .i64 o.n, .int .i64 o.m, .slice A o.b.length c] 45)) from (Keeps.refl w).alloc _)
  have HN1 := Lib.hid (obj_new w (.cells #[.int .i64 o.kind, .int .i64 o.n, .int .i64 o.m, .slice A o.b.length c] 45))
  clear hx hf hr hA h1 h2 hdis hT
  unfold opVal StepPost
  have HP := Lib.hid (show x.play o = (x.cut o.n).1 by unfold Dv.play Dv.keep; rw [if_neg (by omega), if_neg (by omega), if_neg (by omega), if_pos hk])
  rw [HP.out]
  rw [hk] at HK1 HN1
  go_enter Try.func40, Try.ntmps40
  go_wp2_with fail
  refine (devCut_calls gd _ x o.n _ (H1.out.below HK1.out.below) HX.out.ok (by omega)).mono ?_
  rintro e w2 ⟨rfl, d2, t2⟩
  have hbx := t2.obj (show (w.alloc (.cells #[.int .i64 3, .int .i64 o.n, .int .i64 o.m, .slice A o.b.length c] 45)).heap[w.heap.size]? = _ from HN1.out) (fun h => by have := (HT.out _ (.inl h)).2; omega)
  have x0 : w2.cell? ⟨w.heap.size, 0, none⟩ = some (.int .i64 3) := by rw [obj_cell hbx]; rfl
  have x1 : w2.cell? ⟨w.heap.size, 1, none⟩ = some (.int .i64 o.n) := by rw [obj_cell hbx]; rfl
  have x2 : w2.cell? ⟨w.heap.size, 2, none⟩ = some (.int .i64 o.m) := by rw [obj_cell hbx]; rfl
  have x3 : w2.cell? ⟨w.heap.size, 3, none⟩ = some (.slice A o.b.length c) := by rw [obj_cell hbx]; rfl
  have HD2 := Lib.hid d2
  have HT2 := Lib.hid t2
  have HR2 := Lib.hid ((H2.out.below HK1.out.below).keep t2 fun k _ h h' => HDIS.out k h' h)
  clear hbx d2 t2
  go_wp2_with fail
  refine (refCut_calls gr _ x o.n _ HR2.out HX.out.ok (by omega)).mono ?_
  rintro e w3 ⟨rfl, r3, t3⟩
  have hT1 : ∀ k, S1 k ∨ S2 k → T k ∧ k < (w.alloc (.cells #[.int .i64 3, .int .i64 o.n, .int .i64 o.m, .slice A o.b.length c] 45)).heap.size := fun k hk => ⟨(HT.out k hk).1, by have := (HT.out k hk).2; simp; omega⟩
  have hfin := step_end HK1.out (Both.step HDIS.out hT1 HD2.out HT2.out r3 t3)
  have HFIN := Lib.hid hfin
  clear hT1 hfin r3 t3
  go_wp2
  go_ret
  exact ⟨ret_bool (by simp), HFIN.out⟩

set_option maxRecDepth 100000 in
set_option maxHeartbeats 1000000 in
theorem step_fail (gd gr : Nat) (T : Nat → Prop) (x : Dv) (o : Op) (A : Option Addr) (c : Nat) (w : World) (hb : Both w T gd gr x) (hx : x.Roomy) (hf : o.Fits) (hr : Reads w A o.b) (hA : ∀ a, A = some a → o.b ≠ [] → ¬ T a.block) (hl : o.b.length ≤ 140737488351232) (hk : o.kind = 5) :
    Calls Try.prog 40 #[.pointer (some ⟨gd, 0, none⟩), .pointer (some ⟨gr, 0, none⟩), opVal o A c] w (StepPost w T gd gr x o) := by
  obtain ⟨S1, S2, h1, h2, hdis, hT⟩ := hb
  have HX := Lib.hid hx
  have HF := Lib.hid hf
  have HR := Lib.hid hr
  have HAT := Lib.hid hA
  have H1 := Lib.hid h1
  have H2 := Lib.hid h2
  have HDIS := Lib.hid hdis
  have HT := Lib.hid hT
  have hdd := hx.deeds
  have hcc := hx.counted
  have HK1 := Lib.hid (show Keeps w (w.alloc (.cells #[.int .i64 o.kind, .int .i64 o.n, .int .i64 o.m, .slice A o.b.length c] 45)) from (Keeps.refl w).alloc _)
  have HN1 := Lib.hid (obj_new w (.cells #[.int .i64 o.kind, .int .i64 o.n, .int .i64 o.m, .slice A o.b.length c] 45))
  clear hx hf hr hA h1 h2 hdis hT
  unfold opVal StepPost
  have HP := Lib.hid (show x.play o = (x.fail o.n o.m).1 by unfold Dv.play Dv.keep; rw [if_neg (by omega), if_neg (by omega), if_neg (by omega), if_neg (by omega), if_pos hk])
  rw [HP.out]
  rw [hk] at HK1 HN1
  go_enter Try.func40, Try.ntmps40
  go_wp2_with fail
  refine (devFail_calls gd _ x o.n o.m _ (H1.out.below HK1.out.below)).mono ?_
  rintro e w2 ⟨rfl, d2, t2⟩
  have hbx := t2.obj (show (w.alloc (.cells #[.int .i64 5, .int .i64 o.n, .int .i64 o.m, .slice A o.b.length c] 45)).heap[w.heap.size]? = _ from HN1.out) (fun h => by have := (HT.out _ (.inl h)).2; omega)
  have x0 : w2.cell? ⟨w.heap.size, 0, none⟩ = some (.int .i64 5) := by rw [obj_cell hbx]; rfl
  have x1 : w2.cell? ⟨w.heap.size, 1, none⟩ = some (.int .i64 o.n) := by rw [obj_cell hbx]; rfl
  have x2 : w2.cell? ⟨w.heap.size, 2, none⟩ = some (.int .i64 o.m) := by rw [obj_cell hbx]; rfl
  have x3 : w2.cell? ⟨w.heap.size, 3, none⟩ = some (.slice A o.b.length c) := by rw [obj_cell hbx]; rfl
  have HD2 := Lib.hid d2
  have HT2 := Lib.hid t2
  have HR2 := Lib.hid ((H2.out.below HK1.out.below).keep t2 fun k _ h h' => HDIS.out k h' h)
  clear hbx d2 t2
  go_wp2_with fail
  refine (refFail_calls gr _ x o.n o.m _ HR2.out).mono ?_
  rintro e w3 ⟨rfl, r3, t3⟩
  have hT1 : ∀ k, S1 k ∨ S2 k → T k ∧ k < (w.alloc (.cells #[.int .i64 5, .int .i64 o.n, .int .i64 o.m, .slice A o.b.length c] 45)).heap.size := fun k hk => ⟨(HT.out k hk).1, by have := (HT.out k hk).2; simp; omega⟩
  have hfin := step_end HK1.out (Both.step HDIS.out hT1 HD2.out HT2.out r3 t3)
  have HFIN := Lib.hid hfin
  clear hT1 hfin r3 t3
  go_wp2
  go_ret
  exact ⟨ret_bool (by simp), HFIN.out⟩

set_option maxRecDepth 100000 in
set_option maxHeartbeats 1000000 in
theorem step_start (gd gr : Nat) (T : Nat → Prop) (x : Dv) (o : Op) (A : Option Addr) (c : Nat) (w : World) (hb : Both w T gd gr x) (hx : x.Roomy) (hf : o.Fits) (hr : Reads w A o.b) (hA : ∀ a, A = some a → o.b ≠ [] → ¬ T a.block) (hl : o.b.length ≤ 140737488351232) (hk : o.kind = 6) :
    Calls Try.prog 40 #[.pointer (some ⟨gd, 0, none⟩), .pointer (some ⟨gr, 0, none⟩), opVal o A c] w (StepPost w T gd gr x o) := by
  obtain ⟨S1, S2, h1, h2, hdis, hT⟩ := hb
  have HX := Lib.hid hx
  have HF := Lib.hid hf
  have HR := Lib.hid hr
  have HAT := Lib.hid hA
  have H1 := Lib.hid h1
  have H2 := Lib.hid h2
  have HDIS := Lib.hid hdis
  have HT := Lib.hid hT
  have hdd := hx.deeds
  have hcc := hx.counted
  have HK1 := Lib.hid (show Keeps w (w.alloc (.cells #[.int .i64 o.kind, .int .i64 o.n, .int .i64 o.m, .slice A o.b.length c] 45)) from (Keeps.refl w).alloc _)
  have HN1 := Lib.hid (obj_new w (.cells #[.int .i64 o.kind, .int .i64 o.n, .int .i64 o.m, .slice A o.b.length c] 45))
  clear hx hf hr hA h1 h2 hdis hT
  unfold opVal StepPost
  have HP := Lib.hid (show x.play o = (x.start).1 by unfold Dv.play Dv.keep; rw [if_neg (by omega), if_neg (by omega), if_neg (by omega), if_neg (by omega), if_neg (by omega), if_pos hk])
  rw [HP.out]
  rw [hk] at HK1 HN1
  go_enter Try.func40, Try.ntmps40
  go_wp2_with fail
  refine (devStart_calls gd _ x _ (H1.out.below HK1.out.below)).mono ?_
  rintro e w2 ⟨rfl, d2, t2⟩
  have hbx := t2.obj (show (w.alloc (.cells #[.int .i64 6, .int .i64 o.n, .int .i64 o.m, .slice A o.b.length c] 45)).heap[w.heap.size]? = _ from HN1.out) (fun h => by have := (HT.out _ (.inl h)).2; omega)
  have x0 : w2.cell? ⟨w.heap.size, 0, none⟩ = some (.int .i64 6) := by rw [obj_cell hbx]; rfl
  have x1 : w2.cell? ⟨w.heap.size, 1, none⟩ = some (.int .i64 o.n) := by rw [obj_cell hbx]; rfl
  have x2 : w2.cell? ⟨w.heap.size, 2, none⟩ = some (.int .i64 o.m) := by rw [obj_cell hbx]; rfl
  have x3 : w2.cell? ⟨w.heap.size, 3, none⟩ = some (.slice A o.b.length c) := by rw [obj_cell hbx]; rfl
  have HD2 := Lib.hid d2
  have HT2 := Lib.hid t2
  have HR2 := Lib.hid ((H2.out.below HK1.out.below).keep t2 fun k _ h h' => HDIS.out k h' h)
  clear hbx d2 t2
  go_wp2_with fail
  refine (refStart_calls gr _ x _ HR2.out).mono ?_
  rintro e w3 ⟨rfl, r3, t3⟩
  have hT1 : ∀ k, S1 k ∨ S2 k → T k ∧ k < (w.alloc (.cells #[.int .i64 6, .int .i64 o.n, .int .i64 o.m, .slice A o.b.length c] 45)).heap.size := fun k hk => ⟨(HT.out k hk).1, by have := (HT.out k hk).2; simp; omega⟩
  have hfin := step_end HK1.out (Both.step HDIS.out hT1 HD2.out HT2.out r3 t3)
  have HFIN := Lib.hid hfin
  clear hT1 hfin r3 t3
  go_wp2
  go_ret
  exact ⟨ret_bool (by simp), HFIN.out⟩

set_option maxRecDepth 100000 in
set_option maxHeartbeats 1000000 in
theorem step_damage (gd gr : Nat) (T : Nat → Prop) (x : Dv) (o : Op) (A : Option Addr) (c : Nat) (w : World) (hb : Both w T gd gr x) (hx : x.Roomy) (hf : o.Fits) (hr : Reads w A o.b) (hA : ∀ a, A = some a → o.b ≠ [] → ¬ T a.block) (hl : o.b.length ≤ 140737488351232) (hk : o.kind = 7) :
    Calls Try.prog 40 #[.pointer (some ⟨gd, 0, none⟩), .pointer (some ⟨gr, 0, none⟩), opVal o A c] w (StepPost w T gd gr x o) := by
  obtain ⟨S1, S2, h1, h2, hdis, hT⟩ := hb
  have HX := Lib.hid hx
  have HF := Lib.hid hf
  have HR := Lib.hid hr
  have HAT := Lib.hid hA
  have H1 := Lib.hid h1
  have H2 := Lib.hid h2
  have HDIS := Lib.hid hdis
  have HT := Lib.hid hT
  have hdd := hx.deeds
  have hcc := hx.counted
  have HK1 := Lib.hid (show Keeps w (w.alloc (.cells #[.int .i64 o.kind, .int .i64 o.n, .int .i64 o.m, .slice A o.b.length c] 45)) from (Keeps.refl w).alloc _)
  have HN1 := Lib.hid (obj_new w (.cells #[.int .i64 o.kind, .int .i64 o.n, .int .i64 o.m, .slice A o.b.length c] 45))
  clear hx hf hr hA h1 h2 hdis hT
  unfold opVal StepPost
  have HP := Lib.hid (show x.play o = (x.damage o.n (byteOf o.m)).1 by unfold Dv.play Dv.keep; rw [if_neg (by omega), if_neg (by omega), if_neg (by omega), if_neg (by omega), if_neg (by omega), if_neg (by omega), if_pos hk])
  rw [HP.out]
  rw [hk] at HK1 HN1
  go_enter Try.func40, Try.ntmps40
  go_wp2_with fail
  go_region_with (first
    | (go_at_call 33; refine (byteOf_calls o.m _).mono ?_; rintro e wx ⟨rfl, rfl⟩)
    | (go_at_call 32; refine (devDamage_calls gd _ x o.n (byteOf o.m) _ (H1.out.below (HK1.out.quiet ⟨1, rfl⟩).below) HX.out.ok).mono ?_; rintro e w2 ⟨rfl, d2, t2⟩))
  all_goals
    have hkq := HK1.out.quiet ⟨1, rfl⟩
    have hbx := t2.obj (show (w.alloc (.cells #[.int .i64 7, .int .i64 o.n, .int .i64 o.m, .slice A o.b.length c] 45)).drew.heap[w.heap.size]? = _ from HN1.out) (fun h => by have := (HT.out _ (.inl h)).2; omega)
    have x0 : w2.cell? ⟨w.heap.size, 0, none⟩ = some (.int .i64 7) := by rw [obj_cell hbx]; rfl
    have x1 : w2.cell? ⟨w.heap.size, 1, none⟩ = some (.int .i64 o.n) := by rw [obj_cell hbx]; rfl
    have x2 : w2.cell? ⟨w.heap.size, 2, none⟩ = some (.int .i64 o.m) := by rw [obj_cell hbx]; rfl
    have x3 : w2.cell? ⟨w.heap.size, 3, none⟩ = some (.slice A o.b.length c) := by rw [obj_cell hbx]; rfl
    have HD2 := Lib.hid d2
    have HT2 := Lib.hid t2
    have HR2 := Lib.hid ((H2.out.below hkq.below).keep t2 fun k _ h h' => HDIS.out k h' h)
    clear hbx d2 t2
    go_wp2_with fail
    go_region_with (first
      | (go_at_call 33; refine (byteOf_calls o.m _).mono ?_; rintro e wx ⟨rfl, rfl⟩)
      | (go_at_call 57; refine (refDamage_calls gr _ x o.n (byteOf o.m) _ (HR2.out.below (Keeps.drew w2).below) HX.out.ok).mono ?_; rintro e w3 ⟨rfl, r3, t3⟩))
    all_goals
      have hT1 : ∀ k, S1 k ∨ S2 k → T k ∧ k < (w.alloc (.cells #[.int .i64 7, .int .i64 o.n, .int .i64 o.m, .slice A o.b.length c] 45)).drew.heap.size := fun k hk => ⟨(HT.out k hk).1, by have := (HT.out k hk).2; simp; omega⟩
      have hfin := step_end (hkq) (Both.step HDIS.out hT1 HD2.out HT2.out (w'' := w3) (r3.mono fun k _ h => h) (((Touch.refl _ w2).drew).then t3))
      have HFIN := Lib.hid hfin
      clear hT1 hfin r3 t3
      go_wp2
      go_ret
      exact ⟨ret_bool (by simp), HFIN.out⟩

set_option maxRecDepth 100000 in
set_option maxHeartbeats 1000000 in
theorem step_tail (gd gr : Nat) (T : Nat → Prop) (x : Dv) (o : Op) (A : Option Addr) (c : Nat) (w : World) (hb : Both w T gd gr x) (hx : x.Roomy) (hf : o.Fits) (hr : Reads w A o.b) (hA : ∀ a, A = some a → o.b ≠ [] → ¬ T a.block) (hl : o.b.length ≤ 140737488351232) (hk : o.kind = 8) :
    Calls Try.prog 40 #[.pointer (some ⟨gd, 0, none⟩), .pointer (some ⟨gr, 0, none⟩), opVal o A c] w (StepPost w T gd gr x o) := by
  obtain ⟨S1, S2, h1, h2, hdis, hT⟩ := hb
  have HX := Lib.hid hx
  have HF := Lib.hid hf
  have HR := Lib.hid hr
  have HAT := Lib.hid hA
  have H1 := Lib.hid h1
  have H2 := Lib.hid h2
  have HDIS := Lib.hid hdis
  have HT := Lib.hid hT
  have hdd := hx.deeds
  have hcc := hx.counted
  have HK1 := Lib.hid (show Keeps w (w.alloc (.cells #[.int .i64 o.kind, .int .i64 o.n, .int .i64 o.m, .slice A o.b.length c] 45)) from (Keeps.refl w).alloc _)
  have HN1 := Lib.hid (obj_new w (.cells #[.int .i64 o.kind, .int .i64 o.n, .int .i64 o.m, .slice A o.b.length c] 45))
  clear hx hf hr hA h1 h2 hdis hT
  unfold opVal StepPost
  have HP := Lib.hid (show x.play o = (x.tail o.b).1 by unfold Dv.play Dv.keep; rw [if_neg (by omega), if_neg (by omega), if_neg (by omega), if_neg (by omega), if_neg (by omega), if_neg (by omega), if_neg (by omega), if_pos hk])
  rw [HP.out]
  rw [hk] at HK1 HN1
  go_enter Try.func40, Try.ntmps40
  go_wp2_with fail
  refine (devTail_calls gd _ x A c o.b _ (H1.out.below HK1.out.below) HX.out.ok (by omega) (HR.out.below HK1.out.below)).mono ?_
  rintro e w2 ⟨rfl, d2, t2⟩
  have hbx := t2.obj (show (w.alloc (.cells #[.int .i64 8, .int .i64 o.n, .int .i64 o.m, .slice A o.b.length c] 45)).heap[w.heap.size]? = _ from HN1.out) (fun h => by have := (HT.out _ (.inl h)).2; omega)
  have x0 : w2.cell? ⟨w.heap.size, 0, none⟩ = some (.int .i64 8) := by rw [obj_cell hbx]; rfl
  have x1 : w2.cell? ⟨w.heap.size, 1, none⟩ = some (.int .i64 o.n) := by rw [obj_cell hbx]; rfl
  have x2 : w2.cell? ⟨w.heap.size, 2, none⟩ = some (.int .i64 o.m) := by rw [obj_cell hbx]; rfl
  have x3 : w2.cell? ⟨w.heap.size, 3, none⟩ = some (.slice A o.b.length c) := by rw [obj_cell hbx]; rfl
  have HD2 := Lib.hid d2
  have HT2 := Lib.hid t2
  have HR2 := Lib.hid ((H2.out.below HK1.out.below).keep t2 fun k _ h h' => HDIS.out k h' h)
  clear hbx d2 t2
  have RR := (HR.out.below HK1.out.below)
  have RR2 : Reads w2 A o.b := HT2.out.reads RR (fun a e hn h => HAT.out a e hn (HT.out _ (.inl h)).1)
  have SA : ∀ a, A = some a → o.b ≠ [] → ¬ S2 a.block := fun a e hn h => HAT.out a e hn (HT.out _ (.inr h)).1
  have RRH := Lib.hid RR2
  have SAH := Lib.hid SA
  clear RR RR2 SA
  go_wp2_with fail
  refine (refTail_calls gr _ x A c o.b _ HR2.out HX.out.ok (by omega) RRH.out SAH.out).mono ?_
  rintro e w3 ⟨rfl, r3, t3⟩
  have hT1 : ∀ k, S1 k ∨ S2 k → T k ∧ k < (w.alloc (.cells #[.int .i64 8, .int .i64 o.n, .int .i64 o.m, .slice A o.b.length c] 45)).heap.size := fun k hk => ⟨(HT.out k hk).1, by have := (HT.out k hk).2; simp; omega⟩
  have hfin := step_end HK1.out (Both.step HDIS.out hT1 HD2.out HT2.out r3 t3)
  have HFIN := Lib.hid hfin
  clear hT1 hfin r3 t3
  go_wp2
  go_ret
  exact ⟨ret_bool (by simp), HFIN.out⟩
end Go.Proofs.Ytnfefjlplipeiab
