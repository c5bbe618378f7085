/-
  The walk of the law CrcParts: it returns true, and what was there before is as it was. Condition: the arguments read as lists of bytes, together of at most 2^47; the table of halves holds its numbers.
-/
import Derived.Test.YtnfefjlplipeiaaDoorCrcLawA
namespace Go.Proofs.YtnfefjlplipeiaaDoor
open Go.RowKit

set_option maxHeartbeats 2000000 in
theorem parts_calls (A B C : Option Addr) (ca cb cc : Nat) (a b c : List UInt8) (w : World) (hl : a.length + b.length + c.length ≤ 140737488355328) (ha : Reads w A a) (hb : Reads w B b) (hc : Reads w C c) (ht : Table w) :
    Calls Tryd.prog 6 #[.slice A a.length ca, .slice B b.length cb, .slice C c.length cc] w fun e w' => e = .returned (.bool true) ∧ Below w.heap.size w w' := by
  have HT := Lib.hid ht
  have HA := Lib.hid ha
  have HB := Lib.hid hb
  have HC := Lib.hid hc
  clear ht ha hb hc
  go_enter Tryd.func6, Tryd.ntmps6
  go_wp2_with (at_builtin; refine wpList_append_bytes (w0 := w) w.heap.size rfl _ _ 25 5 rfl Tryd.underlying25 info_u8 _ [] a rfl (OwnB.lit 5 w w.heap.size [] #[] rfl (Nat.le_refl _) (by decide)) A ca rfl ?c1 ?c2 ?c3 ?c4 ?_)
  case c1 => exact HA.out.below ((Below.refl _ _).alloc (Nat.le_refl _) _)
  case c2 => simp; omega
  case c3 => simp
  case c4 => exact (Below.refl _ _).alloc (Nat.le_refl _) _
  intro v1 w1 (hown : OwnB 5 w1 w.heap.size v1 a) hb1 _ _
  have HB1 := Lib.hid hb1
  have HO := Lib.hid hown
  clear hb1 hown
  go_wp2_with (at_builtin; refine wpList_append_bytes (w0 := w) w.heap.size rfl _ _ 25 5 rfl Tryd.underlying25 info_u8 _ a b rfl HO.out B cb rfl ?d1 ?d2 ?d3 ?d4 ?_)
  case d1 => exact HB.out.below HB1.out
  case d2 => omega
  case d3 => exact HB1.out.size
  case d4 => exact HB1.out
  intro v2 w2 hown hb2 _ _
  clear HO HB1
  have HB2 := Lib.hid hb2
  have HO := Lib.hid hown
  clear hb2 hown
  go_wp2_with (at_builtin; refine wpList_append_bytes (w0 := w) w.heap.size rfl _ _ 25 5 rfl Tryd.underlying25 info_u8 _ (a ++ b) c rfl HO.out C cc rfl ?e1 ?e2 ?e3 ?e4 ?_)
  case e1 => exact HC.out.below HB2.out
  case e2 => simp; omega
  case e3 => exact HB2.out.size
  case e4 => exact HB2.out
  intro v3 w3 hown hb3 _ _
  clear HO HB2
  obtain ⟨D, cd, rfl, _, hr, _, _⟩ := hown.form
  have HB3 := Lib.hid hb3
  have HD := Lib.hid hr
  have HA3 := Lib.hid (HA.out.below hb3)
  have HB3' := Lib.hid (HB.out.below hb3)
  have HC3 := Lib.hid (HC.out.below hb3)
  have HT3 := Lib.hid (HT.out.step hb3)
  clear hown hb3 hr HA HB HC HT
  have hsum : Crc.sum (nats (a ++ (b ++ c))) = Crc.upd (Crc.upd (Crc.sum (nats a)) (nats b)) (nats c) := by
    unfold nats Crc.sum
    rw [List.map_append, List.map_append, Crc.upd_append, Crc.upd_append]
  have hlen : (a ++ (b ++ c)).length ≤ 9223372036854775807 := by simp; omega
  have HS := Lib.hid hsum
  have HL := Lib.hid hlen
  clear hsum hlen
  generalize hall : a ++ (b ++ c) = all at *
  clear hall
  have h1 : Crc.sum (nats a) < 4294967296 := Crc.upd_lt _ (by omega) (nats_lt a)
  have h2 : Crc.upd (Crc.sum (nats a)) (nats b) < 4294967296 := Crc.upd_lt _ h1 (nats_lt b)
  go_wp2_with fail
  refine (sum_calls A ca a _ (by omega) HA3.out HT3.out).mono ?_
  rintro e w4 ⟨rfl, rfl⟩
  go_wp2_with fail
  refine (update_calls _ h1 B cb b _ (by omega) HB3'.out HT3.out).mono ?_
  rintro e w4 ⟨rfl, rfl⟩
  generalize Crc.upd (Crc.sum (nats a)) (nats b) = two at *
  go_wp2_with fail
  refine (live_calls _ HT3.out).mono ?_
  rintro e w4 ⟨rfl, hb4⟩
  have HB4 := Lib.hid (HB3.out.trans (hb4.mono HB3.out.size))
  have HD4 := Lib.hid (HD.out.below hb4)
  have HC4 := Lib.hid (HC3.out.below hb4)
  have HT4 := Lib.hid (HT3.out.step hb4)
  clear hb4 HB3 HD HC3 HT3 HA3 HB3' h1
  go_wp2_with fail
  refine (update_calls _ h2 C cc c _ (by omega) HC4.out HT4.out).mono ?_
  rintro e w5 ⟨rfl, rfl⟩
  go_wp2_with fail
  refine (at_value (congrArg Nat.cast HS.out) (sum_calls D cd all _ HL.out HD4.out HT4.out)).mono ?_
  rintro e w5 ⟨rfl, rfl⟩
  go_wp2_with fail
  refine (at_value (congrArg Nat.cast HS.out) (slow_calls D cd all _ HL.out HD4.out)).mono ?_
  rintro e w5 ⟨rfl, rfl⟩
  go_wp2_with fail
  refine (at_value (congrArg Nat.cast HS.out) (sum_calls D cd all _ HL.out HD4.out HT4.out)).mono ?_
  rintro e w5 ⟨rfl, rfl⟩
  go_wp2_with fail
  refine (at_value (congrArg Nat.cast (Crc.upd_nil two)) (update_calls _ h2 none 0 [] _ (by decide) (Reads.nil _ _) HT4.out)).mono ?_
  rintro e w5 ⟨rfl, rfl⟩
  go_wp2_with fail
  go_ret
  exact ⟨rfl, HB4.out⟩
end Go.Proofs.YtnfefjlplipeiaaDoor
