/-
  The walks of the laws CrcNumbers, CrcSums, CrcUpdates: each returns true, and what was there before is as it was. Condition: the arguments read as lists of bytes; the table of halves holds its numbers.
-/
import Derived.Test.YtnfefjlplipeiaaDoorCrcLive
namespace Go.Proofs.YtnfefjlplipeiaaDoor
open Go.RowKit

theorem sum_nil : Crc.sum (nats []) = 0 := by decide +kernel
theorem sum_zero : Crc.sum (nats [0]) = 3523407757 := by decide +kernel
theorem sum_255 : Crc.sum (nats [255]) = 4278190080 := by decide +kernel
theorem upd_5 : Crc.upd 5 (nats []) = 5 := by decide +kernel

set_option maxHeartbeats 1000000 in
theorem numbers_calls (w : World) (ht : Table w) :
    Calls Tryd.prog 3 #[] w fun e w' => e = .returned (.bool true) ∧ Below w.heap.size w w' := by
  have HT := Lib.hid ht
  clear ht
  go_enter Tryd.func3, Tryd.ntmps3
  go_wp2_with fail
  refine (live_calls _ HT.out).mono ?_
  rintro e w1 ⟨rfl, hb⟩
  have HB := Lib.hid hb
  have HT1 := Lib.hid (HT.out.step hb)
  clear hb
  go_wp2_with fail
  refine (at_value (congrArg Nat.cast sum_nil) (sum_calls none 0 [] _ (by decide) (Reads.nil _ _) HT1.out)).mono ?_
  rintro e w2 ⟨rfl, rfl⟩
  go_wp2_with fail
  refine (at_value (congrArg Nat.cast sum_zero) (slow_calls _ 1 [0] _ (by decide) (Reads.new w1 [0] 5 (0, 0) #[.int .u8 0] rfl))).mono ?_
  rintro e w2 ⟨rfl, rfl⟩
  have HB1 := Lib.hid (HB.out.alloc HB.out.size (Obj.cells #[.int .u8 0] 5))
  have HT2 := Lib.hid (HT1.out.step ((Below.refl _ _).alloc (Nat.le_refl _) (Obj.cells #[.int .u8 0] 5)))
  generalize w1.alloc (Obj.cells #[.int .u8 0] 5) = w2 at *
  clear HB HT1
  go_wp2_with fail
  have HB2 := Lib.hid (HB1.out.alloc HB1.out.size (Obj.cells #[.int .u8 255] 5))
  have HT3 := Lib.hid (HT2.out.step ((Below.refl _ _).alloc (Nat.le_refl _) (Obj.cells #[.int .u8 255] 5)))
  refine (at_value (congrArg Nat.cast sum_255) (sum_calls _ 1 [255] _ (by decide) (Reads.new w2 [255] 5 (0, 0) #[.int .u8 255] rfl) HT3.out)).mono ?_
  rintro e w2 ⟨rfl, rfl⟩
  generalize w2.alloc (Obj.cells #[.int .u8 255] 5) = w3 at *
  go_wp2_with fail
  refine (at_value (congrArg Nat.cast upd_5) (update_calls 5 (by omega) none 0 [] _ (by decide) (Reads.nil _ _) HT3.out)).mono ?_
  rintro e w2 ⟨rfl, rfl⟩
  go_wp2_with fail
  go_ret
  exact ⟨rfl, HB2.out⟩

set_option maxHeartbeats 1000000 in
theorem updates_calls (s : Nat) (hs : s < 4294967296) (A : Option Addr) (c : Nat) (l : List UInt8) (w : World) (hl : l.length ≤ 9223372036854775807) (hr : Reads w A l) (ht : Table w) :
    Calls Tryd.prog 5 #[.int .u32 (s : Int), .slice A l.length c] w fun e w' => e = .returned (.bool true) ∧ Below w.heap.size w w' := by
  have HT := Lib.hid ht
  have HR := Lib.hid hr
  clear ht hr
  go_enter Tryd.func5, Tryd.ntmps5
  go_wp2_with fail
  refine (live_calls _ HT.out).mono ?_
  rintro e w1 ⟨rfl, hb⟩
  have HB := Lib.hid hb
  have HT1 := Lib.hid (HT.out.step hb)
  have HR1 := Lib.hid (HR.out.below hb)
  clear hb
  go_wp2_with fail
  refine (update_calls s hs A c l _ hl HR1.out HT1.out).mono ?_
  rintro e w2 ⟨rfl, rfl⟩
  go_wp2_with fail
  refine (refUpdate_calls s hs A c l _ hl HR1.out).mono ?_
  rintro e w2 ⟨rfl, rfl⟩
  generalize Crc.upd s (nats l) = X
  go_wp2_with fail
  go_ret
  exact ⟨rfl, HB.out⟩

theorem info_u8 : (Tryd.prog.info? 5).map (fun i => (i.zero, i.size, i.bytes)) = some (some (.int .u8 0), 1, 1) := by kernel_rfl

set_option maxHeartbeats 1000000 in
theorem sums_calls (A : Option Addr) (c : Nat) (l : List UInt8) (w : World) (hl : l.length ≤ 140737488355328) (hr : Reads w A l) (ht : Table w) :
    Calls Tryd.prog 4 #[.slice A l.length c] w fun e w' => e = .returned (.bool true) ∧ Below w.heap.size w w' := by
  have HT := Lib.hid ht
  have HR := Lib.hid hr
  clear ht hr
  go_enter Tryd.func4, Tryd.ntmps4
  go_wp2_with (at_builtin; refine wpList_append_bytes (w0 := w) w.heap.size rfl _ _ 25 5 rfl Tryd.underlying25 info_u8 _ [] l rfl (OwnB.lit 5 w w.heap.size [] #[] rfl (Nat.le_refl _) (by decide)) A c rfl ?c1 ?c2 ?c3 ?c4 ?_)
  case c1 => exact HR.out.below ((Below.refl _ _).alloc (Nat.le_refl _) _)
  case c2 => simpa using hl
  case c3 => simp
  case c4 => exact (Below.refl _ _).alloc (Nat.le_refl _) _
  intro v1 w1 (hown : OwnB 5 w1 w.heap.size v1 l) hb _ _
  obtain ⟨A1, c1, rfl, _, hr1, _, _⟩ := hown.form
  have HB := Lib.hid hb
  have HR1 := Lib.hid hr1
  have HR0 := Lib.hid (HR.out.below hb)
  have HT0 := Lib.hid (HT.out.step hb)
  clear hown hb hr1
  go_wp2_with fail
  refine (sum_calls A c l _ (by omega) HR0.out HT0.out).mono ?_
  rintro e w2 ⟨rfl, rfl⟩
  go_wp2_with fail
  refine (slow_calls A c l _ (by omega) HR0.out).mono ?_
  rintro e w2 ⟨rfl, rfl⟩
  go_wp2_with fail
  refine (refSum_calls A1 c1 l _ (by omega) HR1.out).mono ?_
  rintro e w2 ⟨rfl, rfl⟩
  go_wp2_with fail
  refine (live_calls _ HT0.out).mono ?_
  rintro e w2 ⟨rfl, hb2⟩
  have HB2 := Lib.hid (HB.out.trans (hb2.mono HB.out.size))
  have HR2 := Lib.hid (HR0.out.below hb2)
  have HR3 := Lib.hid (HR1.out.below hb2)
  clear hb2
  generalize Crc.sum (nats l) = X
  go_wp2_with fail
  refine (at_bool (decide_eq_true rfl) (same_calls A A1 c c1 l l _ (by omega) (by omega) HR2.out HR3.out)).mono ?_
  rintro e w3 ⟨rfl, hq⟩
  have HB3 := Lib.hid (HB2.out.trans (hq.below _))
  clear hq
  go_wp2_with fail
  go_ret
  exact ⟨rfl, HB3.out⟩
end Go.Proofs.YtnfefjlplipeiaaDoor
