/-
  The walk of the law's helper same. Condition: the slices read as lists of bytes.
-/
import Derived.Test.YtnfefjlplipeiabTouch
namespace Go.Proofs.Ytnfefjlplipeiab
open Go.RowKit Go.BigFrame
set_option linter.unusedVariables false
set_option linter.unusedSimpArgs false

set_option maxHeartbeats 1000000 in
theorem same05_calls (A B : Option Addr) (c d : Nat) (l m : List UInt8) (w : World) (hl : l.length ≤ 9223372036854775807) (hm : m.length ≤ 9223372036854775807) (hr : Reads w A l) (hr2 : Reads w B m) :
    Calls Try.prog 27 #[.slice A l.length c, .slice B m.length d] w fun e w' => e = .returned (.bool (decide (l = m))) ∧ Quiet w w' := by
  have HR := Lib.hid hr
  have HR2 := Lib.hid hr2
  clear hr hr2
  by_cases hlen : l.length = m.length
  · have b1 : ((l.length : Int) != (m.length : Int)) = false := by simp [hlen]
    have b2 : (l.length != m.length) = false := by simp [hlen]
    have HL := Lib.hid hlen
    clear hlen
    go_enter Try.func27, Try.ntmps27
    go_wp2
    go_loopw [5] (fun i wr => ∃ k : Nat, k ≤ l.length ∧ i = .int .i64 k ∧ l.take k = m.take k ∧ Quiet w wr) (fun i _ => l.length - (intOf i).toNat)
    case atStart => exact ⟨0, Nat.zero_le _, rfl, rfl, Quiet.refl w⟩
    case round =>
      obtain ⟨k, hk, rfl, htk, n, rfl⟩ := hrel
      have HK := Lib.hid htk
      clear htk b1 b2
      by_cases hlt : k < l.length
      · have hlt2 : k < m.length := by have := HL.out; omega
        obtain ⟨a1, rfl, x1⟩ := HR.out.out k hlt
        obtain ⟨a2, rfl, x2⟩ := HR2.out.out k hlt2
        have i1 : (0 : Int) ≤ (k : Int) := Int.natCast_nonneg _
        have i2 : (k : Int) < (l.length : Int) := by omega
        have i3 : (k : Int) < (m.length : Int) := by omega
        by_cases he : l[k]'hlt = m[k]'hlt2
        · have hnx : l.take (k + 1) = m.take (k + 1) := by
            rw [List.take_succ_eq_append_getElem hlt, List.take_succ_eq_append_getElem hlt2, HK.out, he]
          have hq : ((((l[k]'hlt).toNat : Nat) : Int) != (((m[k]'hlt2).toNat : Nat) : Int)) = false := by rw [he]; simp
          have HN := Lib.hid hnx
          have HE := Lib.hid he
          clear he hnx
          go_wp2
          go_quiet (fail)
          go_wp2
          exact ⟨⟨k + 1, by omega, by go_num, HN.out, ⟨_, rfl⟩⟩, by simp [intOf]; omega⟩
        · have hq : ((((l[k]'hlt).toNat : Nat) : Int) != (((m[k]'hlt2).toNat : Nat) : Int)) = true := by
            rw [bne_iff_ne]; intro e; exact he (UInt8.toNat_inj.1 (by omega))
          have HE := Lib.hid he
          clear he
          go_wp2
          go_quiet (fail)
          go_wp2
          go_ret
          refine ⟨ret_bool ?_, ⟨_, by rw [World.drewN_drewN]⟩⟩
          symm
          apply decide_eq_false
          intro h
          subst h
          exact HE.out rfl
      · go_wp2
        go_ret
        refine ⟨ret_bool ?_, ⟨_, rfl⟩⟩
        symm
        apply decide_eq_true
        have := HK.out
        rwa [List.take_of_length_le (by omega), List.take_of_length_le (by have := HL.out; omega)] at this
  · have b1 : ((l.length : Int) != (m.length : Int)) = true := by rw [bne_iff_ne]; omega
    have b2 : (l.length != m.length) = true := by rw [bne_iff_ne]; omega
    have HL := Lib.hid hlen
    clear hlen
    go_enter Try.func27, Try.ntmps27
    go_wp2
    go_ret
    refine ⟨ret_bool ?_, Quiet.refl w⟩
    symm
    apply decide_eq_false
    intro h
    exact HL.out (by rw [h])

end Go.Proofs.Ytnfefjlplipeiab
