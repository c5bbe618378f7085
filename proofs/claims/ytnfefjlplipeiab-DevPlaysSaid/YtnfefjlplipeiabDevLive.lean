/-
  The walks of New and of the law's live. No condition.
-/
import Derived.Test.YtnfefjlplipeiabDevRead
import Derived.Test.YtnfefjlplipeiabDevGets
import Derived.Test.YtnfefjlplipeiabDevNew
import Derived.Test.YtnfefjlplipeiabSame05
import Derived.Test.YtnfefjlplipeiabDevOk
namespace Go.Proofs.Ytnfefjlplipeiab
open Go.RowKit Go.BigFrame
set_option linter.unusedVariables false
set_option linter.unusedSimpArgs false

theorem devNew_calls (q : Nat) (w : World) (h : q ≤ 1048576) :
    Calls Try.prog 21 #[.int .i64 (q : Int)] w fun e w' => e = .returned (.tuple #[.pointer (some ⟨w.heap.size, 0, none⟩), .int .i64 0]) ∧ DV w' (fun j => w.heap.size ≤ j) w.heap.size (Dv.fresh q) ∧ Keeps w w' := by
  refine (new_yes q w (by omega) (by omega)).mono ?_
  rintro e w' ⟨he, rfl⟩
  refine ⟨he, ⟨.slice none 0 0, .pointer none, .nilFunc, ⟨obj_new w _, OwnL.empty _ _ _ _, rfl⟩, Nat.le_refl _, ?_, ?_, rfl⟩, (Keeps.refl w).alloc _⟩
  · intro k hk; rw [blk_empty] at hk; cases hk
  · intro k hk; simp [bpBlock] at hk

/-- bytes that were just laid are written -/
theorem write_new (g : Nat) (B : Nat) (d : Dv) (l : List UInt8) (C : Array Value) (hC : C.toList = u8s l) (w : World) (hd : DV w (fun j => B ≤ j) g d) (hB : B ≤ w.heap.size) (hok : d.Ok) (hl : l.length ≤ 1099511627776) (hdd : d.deeds + l.length ≤ 9223372036854775806) :
    Calls Try.prog 22 #[.pointer (some ⟨g, 0, none⟩), .slice (some ⟨w.heap.size, 0, none⟩) l.length l.length] (w.alloc (.cells C 5)) fun e w' => e = .returned (.int .i64 (d.write l).2) ∧ DV w' (fun j => B ≤ j) g (d.write l).1 ∧ Touch (fun j => B ≤ j) w w' := by
  have hb : Below w.heap.size w (w.alloc (.cells C 5)) := (Below.refl _ w).alloc (Nat.le_refl _) _
  refine (write_calls g _ d _ l.length l _ (hd.here.below hb) hok (Reads.new w l _ _ C hC) (fun a e _ h => ?_) (by omega) hdd).mono ?_
  · cases e
    have := h.2
    simp only at this
    omega
  · rintro e w' ⟨rfl, h1, h2⟩
    refine ⟨rfl, h1.mono fun j _ h => ?_, (Touch.of_below hb fun k hk h => absurd hk (by omega)).trans h2 fun j _ h => h.1⟩
    rcases h with h | h
    · exact h.1
    · have : w.heap.size + 1 ≤ j := by simpa using h
      omega

theorem Touch.keeps {B : Nat} {w w' w'' : World} (hk : Keeps w w') (ht : Touch (fun j => B ≤ j) w' w'') (hB : w.heap.size ≤ B) : Keeps w w'' := by
  have h1 := hk.size
  exact Touch.to_below (F := fun j => w.heap.size ≤ j) ((Touch.of_below hk.below fun k hk h => h).trans ht fun j _ h => Nat.le_trans hB h) _ (fun k h _ => h) (Nat.le_refl _)

set_option maxHeartbeats 2000000 in
theorem devLive_calls (w : World) : Calls Try.prog 20 #[] w fun e w' => e = .returned (.bool true) ∧ Keeps w w' := by
  obtain ⟨d1, hd1⟩ : ∃ d1, d1 = ((Dv.fresh 10).write [1, 2, 3]).1 := ⟨_, rfl⟩
  obtain ⟨d2, hd2⟩ : ∃ d2, d2 = d1.sync.1 := ⟨_, rfl⟩
  obtain ⟨d3, hd3⟩ : ∃ d3, d3 = (d2.fail 2 1).1 := ⟨_, rfl⟩
  obtain ⟨d4, hd4⟩ : ∃ d4, d4 = (d3.write [4, 5, 6]).1 := ⟨_, rfl⟩
  have f1 : ((Dv.fresh 10).write [1, 2, 3]).2 = 0 := by decide
  have f2 : d1.sync.2 = 0 := by rw [hd1]; decide
  have f3 : (d2.fail 2 1).2 = 0 := by rw [hd2, hd1]; decide
  have f4 : (d3.write [4, 5, 6]).2 = 51 := by rw [hd3, hd2, hd1]; decide
  have f5 : (d4.write []) = (d4, 50) := by rw [hd4, hd3, hd2, hd1]; decide
  have f6 : d4 = ⟨[1, 2, 3, 4], 10, 3, true, none, 0, 5⟩ := by rw [hd4, hd3, hd2, hd1]; decide
  have o0 := fresh_ok 10 (by decide)
  have o1 : d1.Ok := by rw [hd1]; exact write_ok o0 _
  have o2 : d2.Ok := by rw [hd2]; exact sync_ok o1
  have o3 : d3.Ok := by rw [hd3]; exact fail_ok o2 2 1 (by decide) (by decide)
  have o4 : d4.Ok := by rw [hd4]; exact write_ok o3 _
  have n3 : d3.deeds = 3 := by rw [hd3, hd2, hd1]; decide
  have F1 := Lib.hid f1
  have F2 := Lib.hid f2
  have F3 := Lib.hid f3
  have F4 := Lib.hid f4
  have F5 := Lib.hid f5
  have F6 := Lib.hid f6
  have O1 := Lib.hid o1
  have O2 := Lib.hid o2
  have O3 := Lib.hid o3
  have O4 := Lib.hid o4
  have D1 := Lib.hid hd1
  have D2 := Lib.hid hd2
  have D3 := Lib.hid hd3
  have D4 := Lib.hid hd4
  have N3 := Lib.hid n3
  clear f1 f2 f3 f4 f5 f6 o0 o1 o2 o3 o4 hd1 hd2 hd3 hd4 n3
  go_enter Try.func20, Try.ntmps20
  go_wp2_with fail
  refine (devNew_calls 10 w (by decide)).mono ?_
  rintro e w1 ⟨rfl, hd1, hk1⟩
  have HD1 := Lib.hid hd1
  have HK1 := Lib.hid hk1
  clear hd1 hk1
  go_wp2_with fail
  refine (write_new w.heap.size w.heap.size (Dv.fresh 10) [1, 2, 3] #[.int .u8 1, .int .u8 2, .int .u8 3] rfl w1 HD1.out HK1.out.size (fresh_ok 10 (by decide)) (by decide) (by decide)).mono ?_
  rintro e w2 ⟨rfl, hd2, ht2⟩
  rw [F1.out]
  rw [← D1.out] at hd2
  have HD2 := Lib.hid hd2
  have HK2 := Lib.hid (Touch.keeps HK1.out ht2 (Nat.le_refl _))
  clear hd2 ht2 HD1 HK1
  go_wp2_with fail
  refine (devSync_calls w.heap.size _ d1 w2 HD2.out).mono ?_
  rintro e w3 ⟨rfl, hd3, ht3⟩
  rw [F2.out]
  rw [← D2.out] at hd3
  have HD3 := Lib.hid (hd3.mono (T := fun j => w.heap.size ≤ j) fun j _ h => h.elim (fun h => h) (fun h => Nat.le_trans HK2.out.size h))
  have HK3 := Lib.hid (Touch.keeps HK2.out ht3 (Nat.le_refl _))
  clear hd3 ht3 HD2 HK2
  go_wp2_with fail
  refine (devFail_calls w.heap.size _ d2 2 1 w3 HD3.out).mono ?_
  rintro e w4 ⟨rfl, hd4, ht4⟩
  rw [F3.out]
  rw [← D3.out] at hd4
  have HD4 := Lib.hid (hd4.mono (T := fun j => w.heap.size ≤ j) fun j _ h => h.elim (fun h => h) (fun h => Nat.le_trans HK3.out.size h))
  have HK4 := Lib.hid (Touch.keeps HK3.out ht4 (Nat.le_refl _))
  clear hd4 ht4 HD3 HK3
  go_wp2_with fail
  refine (write_new w.heap.size w.heap.size d3 [4, 5, 6] #[.int .u8 4, .int .u8 5, .int .u8 6] rfl w4 HD4.out HK4.out.size O3.out (by decide) (by rw [N3.out]; decide)).mono ?_
  rintro e w5 ⟨rfl, hd5, ht5⟩
  rw [F4.out]
  rw [← D4.out] at hd5
  have HD5 := Lib.hid hd5
  have HK5 := Lib.hid (Touch.keeps HK4.out ht5 (Nat.le_refl _))
  clear hd5 ht5 HD4 HK4
  go_wp2_with fail
  refine (write_calls w.heap.size _ d4 none 0 [] w5 HD5.out O4.out (Reads.nil _ _) (fun a e => by cases e) (by decide) (by rw [F6.out]; decide)).mono ?_
  rintro e w6 ⟨rfl, hd6, ht6⟩
  rw [F5.out] at hd6 ⊢
  have HD6 := Lib.hid (hd6.mono (T := fun j => w.heap.size ≤ j) fun j _ h => h.elim (fun h => h) (fun h => Nat.le_trans HK5.out.size h))
  have HK6 := Lib.hid (Touch.keeps HK5.out ht6 (Nat.le_refl _))
  clear hd6 ht6 HD5 HK5
  go_wp2_with fail
  refine (devAll_calls w.heap.size _ d4 w6 HD6.out O4.out).mono ?_
  rintro e w7 ⟨v7, rfl, ho7, hk7⟩
  rw [F6.out] at ho7
  obtain ⟨A7, c7, rfl, _, hr7, _⟩ := ho7.form
  have HD7 := Lib.hid (HD6.out.below hk7.below)
  have HK7 := Lib.hid (HK6.out.trans hk7)
  have HR7 := Lib.hid hr7
  clear ho7 hk7 hr7 HD6 HK6
  go_wp2_with fail
  refine (at_bool (b := true) (by decide) (same05_calls A7 _ c7 4 [1, 2, 3, 4] [1, 2, 3, 4] _ (by decide) (by decide) (HR7.out.below ((Keeps.refl w7).alloc _).below) (Reads.new w7 [1, 2, 3, 4] 5 (0, 0) #[.int .u8 1, .int .u8 2, .int .u8 3, .int .u8 4] rfl))).mono ?_
  rintro e w8 ⟨rfl, hq8⟩
  have hk78 : Keeps w7 w8 := ((Keeps.refl w7).alloc _).quiet hq8
  have HD8 := Lib.hid (HD7.out.below hk78.below)
  have HK8 := Lib.hid (HK7.out.trans hk78)
  clear hq8 hk78 HD7 HK7 HR7
  go_wp2_with fail
  refine (at_value (b := 5) (by rw [F6.out]; rfl) (devWritten_calls w.heap.size _ d4 w8 HD8.out)).mono ?_
  rintro e w9 ⟨rfl, rfl⟩
  go_wp2_with fail
  refine (at_bool (b := false) (by rw [F6.out]; rfl) (devUp_calls w.heap.size _ d4 w8 HD8.out)).mono ?_
  rintro e w9 ⟨rfl, rfl⟩
  go_wp2
  go_ret
  exact ⟨rfl, HK8.out⟩
end Go.Proofs.Ytnfefjlplipeiab
