/-
  The walks of the law's own helpers: same and live. Condition: the slices read as lists; the table of halves holds its numbers.
-/
import Derived.Test.YtnfefjlplipeiaaDoorCrcWalk
namespace Go.Proofs.YtnfefjlplipeiaaDoor
open Go.RowKit

theorem take_eq_of_step {l m : List UInt8} {k : Nat} (h : l.take k = m.take k) (h1 : k < l.length) (h2 : k < m.length) (he : l[k]'h1 = m[k]'h2) : l.take (k + 1) = m.take (k + 1) := by
  rw [List.take_succ_eq_append_getElem h1, List.take_succ_eq_append_getElem h2, h, he]

set_option maxHeartbeats 1000000 in
theorem same_calls (A B : Option Addr) (c d : Nat) (l m : List UInt8) (w : World) (hl : l.length ≤ 9223372036854775807) (hm : m.length ≤ 9223372036854775807) (hr : Reads w A l) (hr2 : Reads w B m) :
    Calls Tryd.prog 14 #[.slice A l.length c, .slice B m.length d] w fun e w' => e = .returned (.bool (decide (l = m))) ∧ Quiet w w' := by
  have HR := Lib.hid hr
  have HR2 := Lib.hid hr2
  clear hr hr2
  by_cases hlen : l.length = m.length
  · have b1 : ((l.length : Int) != (m.length : Int)) = false := by simp [hlen]
    have b2 : (l.length != m.length) = false := by simp [hlen]
    have HL := Lib.hid hlen
    clear hlen
    go_enter Tryd.func14, Tryd.ntmps14
    go_wp2
    go_loopw [5] (fun i wr => ∃ k : Nat, k ≤ l.length ∧ i = .int .i64 k ∧ l.take k = m.take k ∧ Quiet w wr) (fun i _ => l.length - (intOf i).toNat)
    case atStart => exact ⟨0, Nat.zero_le _, rfl, rfl, Quiet.refl w⟩
    case round =>
      obtain ⟨k, hk, rfl, htk, n, rfl⟩ := hrel
      have HK := Lib.hid htk
      clear htk b1 b2
      by_cases hlt : k < l.length
      · have hlt2 : k < m.length := by have := HL.out; omega
        obtain ⟨a1, rfl, c1⟩ := HR.out.out k hlt
        obtain ⟨a2, rfl, c2⟩ := HR2.out.out k hlt2
        by_cases he : l[k]'hlt = m[k]'hlt2
        · have HE := Lib.hid (take_eq_of_step HK.out hlt hlt2 he)
          rw [← he] at c2
          clear he
          go_wp2
          go_quiet (fail)
          go_wp2
          go_roundw
          case rel => exact ⟨k + 1, by omega, by go_num, HE.out, ⟨_, rfl⟩⟩
          case measure => simp [intOf]; omega
        · have hne : ((((l[k]'hlt).toNat : Nat) : Int) != (((m[k]'hlt2).toNat : Nat) : Int)) = true := by
            rw [bne_iff_ne]; intro h; apply he; exact UInt8.toNat_inj.1 (by omega)
          have HE := Lib.hid he
          clear he
          go_wp2
          go_quiet (fail)
          go_wp2
          go_ret
          refine ⟨ret_bool ?_, ⟨_, by rw [World.drewN_drewN]⟩⟩
          symm
          apply decide_eq_false
          intro h
          subst h
          exact HE.out rfl
      · go_wp2
        go_ret
        refine ⟨ret_bool ?_, (Quiet.refl w).step _⟩
        symm
        apply decide_eq_true
        have := HK.out
        rwa [List.take_of_length_le (by omega), List.take_of_length_le (by have := HL.out; omega)] at this
  · have b1 : ((l.length : Int) != (m.length : Int)) = true := by rw [bne_iff_ne]; omega
    have b2 : (l.length != m.length) = true := by rw [bne_iff_ne]; omega
    have HL := Lib.hid hlen
    clear hlen
    go_enter Tryd.func14, Tryd.ntmps14
    go_wp2
    go_ret
    refine ⟨ret_bool ?_, Quiet.refl w⟩
    symm
    apply decide_eq_false
    intro h
    exact HL.out (by rw [h])

def nine : List UInt8 := [49, 50, 51, 52, 53, 54, 55, 56, 57]

theorem sum_nine : Crc.sum (nats nine) = 3421780262 := by decide +kernel
theorem upd_nine : Crc.upd (Crc.sum (nats (nine.take 4))) (nats (nine.drop 4)) = 3421780262 := by decide +kernel
theorem sum_four : Crc.sum (nats (nine.take 4)) < 4294967296 := by decide +kernel
theorem u8_9 : u8s nine = [.int .u8 49, .int .u8 50, .int .u8 51, .int .u8 52, .int .u8 53, .int .u8 54, .int .u8 55, .int .u8 56, .int .u8 57] := rfl

theorem len9 : nine.length = 9 := rfl
theorem len4 : (nine.take 4).length = 4 := rfl
theorem len5 : (nine.drop 4).length = 5 := rfl

set_option maxHeartbeats 1000000 in
theorem live_calls (w : World) (ht : Table w) :
    Calls Tryd.prog 9 #[] w fun e w' => e = .returned (.bool true) ∧ Below w.heap.size w w' := by
  have kc := fun (w : World) (C : Array Value) (n c : Nat) => Lib.run_convert_bytes_const (P := Tryd.prog) w 25 5 C n c Tryd.underlying25 Tryd.underlying5
  have h1 := Reads.new w nine 5 (9, 10) #[.int .u8 49, .int .u8 50, .int .u8 51, .int .u8 52, .int .u8 53, .int .u8 54, .int .u8 55, .int .u8 56, .int .u8 57] u8_9
  have hb : Below w.heap.size w (w.alloc (.cells #[.int .u8 49, .int .u8 50, .int .u8 51, .int .u8 52, .int .u8 53, .int .u8 54, .int .u8 55, .int .u8 56, .int .u8 57] 5 (9, 10))) := (Below.refl _ _).alloc (Nat.le_refl _) _
  have h2 := h1.take 4
  have h3 := h1.drop (ad' := ⟨w.heap.size, 4, none⟩) 4 (fun i => by simp [addr_add_mk])
  have ht' := ht.step hb
  have H1 := Lib.hid h1
  have H2 := Lib.hid h2
  have H3 := Lib.hid h3
  have HT := Lib.hid ht'
  have HB := Lib.hid hb
  clear ht h1 h2 h3 ht' hb
  go_enter Tryd.func9, Tryd.ntmps9
  go_wp2
  generalize w.alloc (.cells #[.int .u8 49, .int .u8 50, .int .u8 51, .int .u8 52, .int .u8 53, .int .u8 54, .int .u8 55, .int .u8 56, .int .u8 57] 5 (9, 10)) = W at *
  clear kc
  have k1 := fun n => quiet_eq (at_value (congrArg Nat.cast sum_nine) (sum_calls _ 9 nine _ (by decide) (H1.out.drewN n) (HT.out.drewN n)))
  have k2 := fun n => quiet_eq (at_value (congrArg Nat.cast sum_nine) (slow_calls _ 9 nine _ (by decide) (H1.out.drewN n)))
  have k3 := fun n => quiet_eq (sum_calls _ 9 (nine.take 4) _ (by decide) (H2.out.drewN n) (HT.out.drewN n))
  have k4 := fun n => quiet_eq (at_value (congrArg Nat.cast upd_nine) (update_calls _ sum_four _ 5 (nine.drop 4) _ (by decide) (H3.out.drewN n) (HT.out.drewN n)))
  rw [len9] at k1 k2
  rw [len4] at k3
  rw [len5] at k4
  generalize Crc.sum (nats (nine.take 4)) = S at k3 k4
  generalize hBe : w.heap.size = B at *
  have HBe := Lib.hid hBe
  clear hBe
  have K1 := Lib.hid k1
  have K2 := Lib.hid k2
  have K3 := Lib.hid k3
  have K4 := Lib.hid k4
  clear k1 k2 k3 k4 H1 H2 H3 HT
  go_quiet (first
    | (with_reducible exact K1.out _)
    | (with_reducible exact K2.out _)
    | (with_reducible exact K3.out _)
    | (with_reducible exact K4.out _))
  go_wp2
  go_ret
  refine ⟨rfl, ?_⟩
  rw [HBe.out]
  exact below_drewN HB.out _
end Go.Proofs.YtnfefjlplipeiaaDoor
