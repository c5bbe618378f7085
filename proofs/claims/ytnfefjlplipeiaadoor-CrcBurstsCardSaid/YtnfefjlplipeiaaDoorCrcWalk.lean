/-
  The walks of the check's functions: what Update, Slow, Sum and the document's Update and Sum answer for any bytes. Condition: the bytes' slice reads as a list; the table of halves holds its sixteen numbers.
-/
import Derived.Test.YtnfefjlplipeiaaDoorKit
import Derived.Test.YtnfefjlplipeiaaDoorCrcMath
namespace Go.Proofs.YtnfefjlplipeiaaDoor
open Go.RowKit

def nats (l : List UInt8) : List Nat := l.map (·.toNat)

/-- the table holds its numbers -/
def Table (w : World) : Prop := ∀ i, i < 16 → w.cell? ⟨0, i, none⟩ = some (.int .u32 ((Crc.tab.getD i 0 : Nat) : Int))


theorem xor_u32 (a b : Nat) (ha : a < 4294967296) (hb : b < 4294967296) : bits BinOp.xor IntKind.u32 (a : Int) (b : Int) = ((a ^^^ b : Nat) : Int) := u32_xor_nat a b ha hb
theorem and15_u32 (a : Nat) (ha : a < 4294967296) : bits BinOp.and IntKind.u32 (a : Int) 15 = ((a % 16 : Nat) : Int) := by
  have := u32_and_nat a 15 ha (by omega)
  rw [show a % 16 = a &&& 15 from (Nat.and_two_pow_sub_one_eq_mod a 4).symm]
  exact this
theorem not_u32 (a : Nat) (ha : a < 4294967296) : bits BinOp.xor IntKind.u32 IntKind.u32.max (a : Int) = ((4294967295 ^^^ a : Nat) : Int) := u32_xor_nat 4294967295 a (by omega) ha
theorem mod_u32 (a : Nat) (ha : a < 4294967296) : ((a : Int) % 4294967296) = (a : Int) := by omega
theorem div16 (a : Nat) : ((a : Int) / 16) = ((a / 16 : Nat) : Int) := by omega

/-- one half byte's step, in the walk's words -/
theorem half_parts (X : Nat) (hX : X < 4294967296) : ∃ m d T Y : Nat, m < 16 ∧ bits BinOp.and IntKind.u32 (X : Int) 15 = (m : Int) ∧ (X : Int) / 16 = (d : Int) ∧ Crc.tab.getD m 0 = T ∧
    bits BinOp.xor IntKind.u32 (d : Int) (T : Int) = (Y : Int) ∧ Y < 4294967296 ∧ Y = Crc.half X := by
  refine ⟨X % 16, X / 16, _, _, Nat.mod_lt _ (by omega), and15_u32 X hX, div16 X, rfl, xor_u32 _ _ (by omega) (Crc.tab_lt _ (Nat.mod_lt _ (by omega))), ?_, rfl⟩
  exact Crc.half_lt hX

theorem nats_length (l : List UInt8) : (nats l).length = l.length := by simp [nats]
theorem nats_lt (l : List UInt8) : ∀ c ∈ nats l, c < 256 := by
  intro c hc
  obtain ⟨b, _, rfl⟩ := List.mem_map.1 hc
  exact b.toNat_lt
theorem nats_take_lt (l : List UInt8) (k : Nat) : ∀ c ∈ (nats l).take k, c < 256 := fun c hc => nats_lt l c (List.mem_of_mem_take hc)
theorem nats_snoc (l : List UInt8) (k : Nat) (h : k < l.length) : (nats l).take (k + 1) = (nats l).take k ++ [(l[k]'h).toNat] := by
  rw [List.take_succ_eq_append_getElem (by simpa [nats] using h)]
  simp [nats]

set_option maxHeartbeats 400000 in
theorem update_calls (s : Nat) (hs : s < 4294967296) (A : Option Addr) (c : Nat) (l : List UInt8) (w : World) (hl : l.length ≤ 9223372036854775807) (hr : Reads w A l) (ht : Table w) :
    Calls Tryd.prog 12 #[.int .u32 (s : Int), .slice A l.length c] w fun e w' => e = .returned (.int .u32 ((Crc.upd s (nats l) : Nat) : Int)) ∧ w = w' := by
  have hfull := not_u32 s hs
  have hs' : 4294967295 ^^^ s < 4294967296 := Crc.xor_lt (by omega) hs
  have hu : Crc.upd s (nats l) = 4294967295 ^^^ Crc.fast (4294967295 ^^^ s) (nats l) := rfl
  generalize 4294967295 ^^^ s = s1 at hfull hs' hu
  have HU := Lib.hid hu
  have HR := Lib.hid hr
  have HT := Lib.hid ht
  clear hr ht hu
  go_enter Tryd.func12, Tryd.ntmps12
  go_wp2
  go_loop [5, 12] (fun r i => ∃ k : Nat, k ≤ l.length ∧ i = .int .i64 k ∧ r = .int .u32 ((Crc.fast s1 ((nats l).take k) : Nat) : Int)) (fun _ i => l.length - (intOf i).toNat)
  case atStart => exact ⟨0, Nat.zero_le _, rfl, rfl⟩
  case round =>
    obtain ⟨k, hk, rfl, rfl⟩ := hrel
    clear hfull
    by_cases hlt : k < l.length
    · obtain ⟨ad, rfl, hc⟩ := HR.out.out k hlt
      have hn : Crc.fast s1 ((nats l).take (k + 1)) = Crc.fastB (Crc.fast s1 ((nats l).take k)) (l[k]'hlt).toNat := by
        rw [nats_snoc l k hlt]; simp [Crc.fast, List.foldl_append]
      have hb : Crc.fast s1 ((nats l).take k) < 4294967296 := Crc.fast_lt _ hs' (nats_take_lt l k)
      have hcb : (l[k]'hlt).toNat < 4294967296 := by have := (l[k]'hlt).toNat_lt; omega
      generalize Crc.fast s1 ((nats l).take k) = R at hn hb ⊢
      generalize (l[k]'hlt).toNat = cb at hn hc hcb
      have e0 := mod_u32 cb hcb
      have e1 := xor_u32 R cb hb hcb
      have hX : R ^^^ cb < 4294967296 := Crc.xor_lt hb hcb
      have hn2 : Crc.fast s1 ((nats l).take (k + 1)) = Crc.half (Crc.half (R ^^^ cb)) := hn
      clear hn
      generalize R ^^^ cb = X at e1 hX hn2
      obtain ⟨m1, d1, T1, Y, hm1, e2, e3, hT1, e4, hY, hYX⟩ := half_parts X hX
      obtain ⟨m2, d2, T2, Z, hm2, f2, f3, hT2, f4, hZ, hZY⟩ := half_parts Y hY
      have c1 := HT.out m1 hm1
      have c2 := HT.out m2 hm2
      rw [hT1] at c1
      rw [hT2] at c2
      rw [← hYX, ← hZY] at hn2
      have HN := Lib.hid hn2
      clear hT1 hT2 hYX hZY hn2
      go_wp2
      go_round
      case rel => exact ⟨k + 1, by omega, by go_num, by rw [HN.out]⟩
      case measure => simp [intOf]; omega
    · go_wp2
      go_ret
      refine ⟨?_, rfl⟩
      have : k = l.length := by omega
      subst this
      rw [List.take_of_length_le (by rw [nats_length]; omega), not_u32 _ (Crc.fast_lt _ hs' (nats_lt l)), HU.out]
      exact ret_int rfl

/-- one bit's step, in the walk's words -/
theorem bit_parts (X : Nat) (hX : X < 4294967296) : ∃ d Y : Nat, bits BinOp.and IntKind.u32 (X : Int) 1 = ((X % 2 : Nat) : Int) ∧ (X : Int) % 2 = ((X % 2 : Nat) : Int) ∧ (X : Int) / 2 = (d : Int) ∧ bits BinOp.xor IntKind.u32 (d : Int) 3988292384 = (Y : Int) ∧
    Crc.bit X < 4294967296 ∧ (X % 2 = 1 → Crc.bit X = Y) ∧ (X % 2 ≠ 1 → Crc.bit X = d) := by
  refine ⟨X / 2, X / 2 ^^^ 3988292384, ?_, by omega, by omega, ?_, Crc.bit_lt hX, fun h => by simp [Crc.bit, h], fun h => by simp [Crc.bit, h]⟩
  · have := u32_and_nat X 1 hX (by omega)
    rw [show X % 2 = X &&& 1 from (Nat.and_two_pow_sub_one_eq_mod X 1).symm]
    exact this
  · exact xor_u32 _ 3988292384 (by omega) (by omega)

theorem nats_slow_step (s1 : Nat) (l : List UInt8) (k : Nat) (hlt : k < l.length) : Crc.slow s1 ((nats l).take (k + 1)) = Crc.bits 8 (Crc.slow s1 ((nats l).take k) ^^^ (l[k]'hlt).toNat) := by
  rw [nats_snoc l k hlt]
  simp only [Crc.slow, List.foldl_append, List.foldl_cons, List.foldl_nil]
  rfl

set_option maxHeartbeats 1000000 in
theorem slow_calls (A : Option Addr) (c : Nat) (l : List UInt8) (w : World) (hl : l.length ≤ 9223372036854775807) (hr : Reads w A l) :
    Calls Tryd.prog 11 #[.slice A l.length c] w fun e w' => e = .returned (.int .u32 ((Crc.sum (nats l) : Nat) : Int)) ∧ w = w' := by
  have hu : Crc.sum (nats l) = 4294967295 ^^^ Crc.slow 4294967295 (nats l) := by
    unfold Crc.sum Crc.upd; rw [Crc.fast_slow]; rfl
  have HU := Lib.hid hu
  have HR := Lib.hid hr
  clear hr hu
  go_enter Tryd.func11, Tryd.ntmps11
  go_wp2
  go_loop [3, 9] (fun r i => ∃ k : Nat, k ≤ l.length ∧ i = .int .i64 k ∧ r = .int .u32 ((Crc.slow 4294967295 ((nats l).take k) : Nat) : Int)) (fun _ i => l.length - (intOf i).toNat)
  case atStart => exact ⟨0, Nat.zero_le _, rfl, rfl⟩
  case round =>
    obtain ⟨k, hk, rfl, rfl⟩ := hrel
    by_cases hlt : k < l.length
    · obtain ⟨ad, rfl, hc⟩ := HR.out.out k hlt
      have hn := nats_slow_step 4294967295 l k hlt
      have hb : Crc.slow 4294967295 ((nats l).take k) < 4294967296 := Crc.slow_lt _ (by omega) (nats_take_lt l k)
      have hcb : (l[k]'hlt).toNat < 4294967296 := by have := (l[k]'hlt).toNat_lt; omega
      generalize Crc.slow 4294967295 ((nats l).take k) = R at hn hb ⊢
      generalize (l[k]'hlt).toNat = cb at hn hc hcb
      have e0 := mod_u32 cb hcb
      have e1 := xor_u32 R cb hb hcb
      have hX : R ^^^ cb < 4294967296 := Crc.xor_lt hb hcb
      generalize R ^^^ cb = X at e1 hX hn
      have HN := Lib.hid hn
      clear hn
      go_wp2
      go_loop [3, 17] (fun r i => ∃ j : Nat, j ≤ 8 ∧ i = .int .i64 j ∧ r = .int .u32 ((Crc.bits j X : Nat) : Int)) (fun _ i => 8 - (intOf i).toNat)
      case atStart => exact ⟨0, Nat.zero_le _, rfl, rfl⟩
      case round =>
        obtain ⟨j, hj, rfl, rfl⟩ := hrel
        clear e0 e1 hc
        by_cases hjl : j < 8
        · have hB : Crc.bits j X < 4294967296 := Crc.bits_lt j hX
          have hs : Crc.bits (j + 1) X = Crc.bit (Crc.bits j X) := by rw [Crc.bits_add]; rfl
          generalize Crc.bits j X = B at hB hs ⊢
          obtain ⟨d, Y, g1, g2, g3, g4, hbl, hy1, hy2⟩ := bit_parts B hB
          clear g2
          by_cases hm : B % 2 = 1
          · have hy := hy1 hm
            rw [hm] at g1
            rw [hy] at hs
            have HS := Lib.hid hs
            clear hm hy hy1 hy2 hs hbl
            go_wp2
            go_round
            case rel => exact ⟨j + 1, by omega, by go_num, by rw [HS.out]⟩
            case measure => simp [intOf]; omega
          · have hm0 : B % 2 = 0 := by omega
            have hy := hy2 hm
            rw [hm0] at g1
            rw [hy] at hs
            have HS := Lib.hid hs
            clear hm hm0 hy hy1 hy2 hs hbl
            go_wp2
            go_round
            case rel => exact ⟨j + 1, by omega, by go_num, by rw [HS.out]⟩
            case measure => simp [intOf]; omega
        · obtain rfl : j = 8 := by omega
          go_wp2
          go_round
          case rel => exact ⟨k + 1, by omega, by go_num, by rw [HN.out]⟩
          case measure => simp [intOf]; omega
    · go_wp2
      go_ret
      refine ⟨?_, rfl⟩
      have : k = l.length := by omega
      subst this
      rw [List.take_of_length_le (by rw [nats_length]; omega), not_u32 _ (Crc.slow_lt _ (by omega) (nats_lt l)), HU.out]
      exact ret_int rfl

set_option maxHeartbeats 1000000 in
theorem refUpdate_calls (s : Nat) (hs : s < 4294967296) (A : Option Addr) (c : Nat) (l : List UInt8) (w : World) (hl : l.length ≤ 9223372036854775807) (hr : Reads w A l) :
    Calls Tryd.prog 15 #[.int .u32 (s : Int), .slice A l.length c] w fun e w' => e = .returned (.int .u32 ((Crc.upd s (nats l) : Nat) : Int)) ∧ w = w' := by
  have hfull := not_u32 s hs
  have hs' : 4294967295 ^^^ s < 4294967296 := Crc.xor_lt (by omega) hs
  have hu : Crc.upd s (nats l) = 4294967295 ^^^ Crc.slow (4294967295 ^^^ s) (nats l) := by
    unfold Crc.upd; rw [Crc.fast_slow]
  generalize 4294967295 ^^^ s = s1 at hfull hs' hu
  have HU := Lib.hid hu
  have HR := Lib.hid hr
  clear hr hu
  go_enter Tryd.func15, Tryd.ntmps15
  go_wp2
  go_loop [5, 6] (fun r i => ∃ k : Nat, k ≤ l.length ∧ i = .int .i64 k ∧ r = .int .u32 ((Crc.slow s1 ((nats l).take k) : Nat) : Int)) (fun _ i => l.length - (intOf i).toNat)
  case atStart => exact ⟨0, Nat.zero_le _, rfl, rfl⟩
  case round =>
    obtain ⟨k, hk, rfl, rfl⟩ := hrel
    clear hfull
    by_cases hlt : k < l.length
    · obtain ⟨ad, rfl, hc⟩ := HR.out.out k hlt
      have hn := nats_slow_step s1 l k hlt
      have hb : Crc.slow s1 ((nats l).take k) < 4294967296 := Crc.slow_lt _ hs' (nats_take_lt l k)
      have hcb : (l[k]'hlt).toNat < 4294967296 := by have := (l[k]'hlt).toNat_lt; omega
      generalize Crc.slow s1 ((nats l).take k) = R at hn hb ⊢
      generalize (l[k]'hlt).toNat = cb at hn hc hcb
      have e0 := mod_u32 cb hcb
      have e1 := xor_u32 R cb hb hcb
      have hX : R ^^^ cb < 4294967296 := Crc.xor_lt hb hcb
      generalize R ^^^ cb = X at e1 hX hn
      have HN := Lib.hid hn
      clear hn
      go_wp2
      go_loop [5, 7] (fun r i => ∃ j : Nat, j ≤ 8 ∧ i = .int .i64 j ∧ r = .int .u32 ((Crc.bits j X : Nat) : Int)) (fun _ i => 8 - (intOf i).toNat)
      case atStart => exact ⟨0, Nat.zero_le _, rfl, rfl⟩
      case round =>
        obtain ⟨j, hj, rfl, rfl⟩ := hrel
        clear e0 e1 hc
        by_cases hjl : j < 8
        · have hB : Crc.bits j X < 4294967296 := Crc.bits_lt j hX
          have hs : Crc.bits (j + 1) X = Crc.bit (Crc.bits j X) := by rw [Crc.bits_add]; rfl
          generalize Crc.bits j X = B at hB hs ⊢
          obtain ⟨d, Y, g1, g2, g3, g4, hbl, hy1, hy2⟩ := bit_parts B hB
          clear g1
          by_cases hm : B % 2 = 1
          · have hy := hy1 hm
            rw [hm] at g2
            rw [hy] at hs
            have HS := Lib.hid hs
            clear hm hy hy1 hy2 hs hbl
            go_wp2
            go_round
            case rel => exact ⟨j + 1, by omega, by go_num, by rw [HS.out]⟩
            case measure => simp [intOf]; omega
          · have hm0 : B % 2 = 0 := by omega
            have hy := hy2 hm
            rw [hm0] at g2
            rw [hy] at hs
            have HS := Lib.hid hs
            clear hm hm0 hy hy1 hy2 hs hbl
            go_wp2
            go_round
            case rel => exact ⟨j + 1, by omega, by go_num, by rw [HS.out]⟩
            case measure => simp [intOf]; omega
        · obtain rfl : j = 8 := by omega
          go_wp2
          go_round
          case rel => exact ⟨k + 1, by omega, by go_num, by rw [HN.out]⟩
          case measure => simp [intOf]; omega
    · go_wp2
      go_ret
      refine ⟨?_, rfl⟩
      have : k = l.length := by omega
      subst this
      rw [List.take_of_length_le (by rw [nats_length]; omega), not_u32 _ (Crc.slow_lt _ hs' (nats_lt l)), HU.out]
      exact ret_int rfl

theorem Table.below {w w' : World} (h : Table w) (h0 : 0 < w.heap.size) (hb : Below w.heap.size w w') : Table w' := fun i hi => by rw [hb.cell (p := ⟨0, i, none⟩) h0]; exact h i hi
theorem Table.lt {w : World} (h : Table w) : 0 < w.heap.size := World.block_lt_of_cell? w ⟨0, 0, none⟩ (h 0 (by omega))
theorem Table.drewN {w : World} (h : Table w) (n : Nat) : Table (w.drewN n) := h
theorem Table.step {w w' : World} (h : Table w) (hb : Below w.heap.size w w') : Table w' := h.below h.lt hb

set_option maxHeartbeats 400000 in
theorem sum_calls (A : Option Addr) (c : Nat) (l : List UInt8) (w : World) (hl : l.length ≤ 9223372036854775807) (hr : Reads w A l) (ht : Table w) :
    Calls Tryd.prog 10 #[.slice A l.length c] w fun e w' => e = .returned (.int .u32 ((Crc.sum (nats l) : Nat) : Int)) ∧ w = w' := by
  have HR := Lib.hid hr
  have HT := Lib.hid ht
  clear hr ht
  go_enter Tryd.func10, Tryd.ntmps10
  go_wp2_with (go_at_call 12; refine (update_calls 0 (by omega) A c l _ hl HR.out HT.out).mono ?_; rintro e w' ⟨rfl, rfl⟩)
  go_ret
  exact ⟨rfl, rfl⟩

set_option maxHeartbeats 400000 in
theorem refSum_calls (A : Option Addr) (c : Nat) (l : List UInt8) (w : World) (hl : l.length ≤ 9223372036854775807) (hr : Reads w A l) :
    Calls Tryd.prog 13 #[.slice A l.length c] w fun e w' => e = .returned (.int .u32 ((Crc.sum (nats l) : Nat) : Int)) ∧ w = w' := by
  have HR := Lib.hid hr
  clear hr
  go_enter Tryd.func13, Tryd.ntmps13
  go_wp2_with (go_at_call 15; refine (refUpdate_calls 0 (by omega) A c l _ hl HR.out).mono ?_; rintro e w' ⟨rfl, rfl⟩)
  go_ret
  exact ⟨rfl, rfl⟩

end Go.Proofs.YtnfefjlplipeiaaDoor
