/-
  The walk of the reference's Put of leb. Condition: the number is of 64 bits. The reference's Zig, Zag, Of, Fix, flag, typeAt, CheckType: their walks. Condition of the types': the value stands for the type. The walk of the reference's Is. Condition: the value and the type stand for trees; the contract of the reference's Utf. The walk of the reference's Name. No condition. The walk of the reference's Find of a schema. Condition: the slice stands for columns. The walk of the reference's column. Condition: the slice stands for columns, the cells for one, the tables of unicode/utf8 are as laid. The walk of the reference's typeBytes. Condition: the value stands for a type that may be. The walk of the reference's ValueBytes. Condition: the value may be, its numbers are of 64 bits.
-/
import Derived.Test.YtbhhhkilljnkfaaGreatDoorG1
import Derived.Test.YtbhhhkilljnkfaaGreatDoorG4
import Derived.Test.YtbhhhkilljnkfaaGreatDoorG3
import Derived.Test.YtbhhhkilljnkfaaGreatDoorG12
import Derived.Test.YtbhhhkilljnkfaaGreatDoorG2
import Derived.Test.YtbhhhkilljnkfaaGreatDoorG5
/- The walk of the reference's Put of leb. Condition: the number is of 64 bits. -/
namespace Go.Proofs.YtbhhhkilljnkfaaGreatDoor
open Go.RowKit
set_option linter.unusedVariables false
set_option linter.unusedSimpArgs false

set_option maxRecDepth 20000 in
set_option maxHeartbeats 1000000 in
theorem ref3Put_calls (n : Nat) (hn : n < 18446744073709551616) (w : World) :
    Calls Tryz.prog 61 #[.int .u64 (n : Int)] w fun e w' => ∃ v, e = .returned v ∧ OwnB 5 w' w.heap.size v (leb n) ∧ Keeps w w' := by
  have hlen := leb_le n hn
  have HL := Lib.hid hlen
  have HN := Lib.hid hn
  clear hlen hn
  go_enter Tryz.func61, Tryz.ntmps61
  go_wp2_with fail
  go_loopw [0, 3] (fun i b wr => ∃ (m : Nat) (pre : List UInt8) (A : Option Addr) (c : Nat), i = .int .u64 (m : Int) ∧ b = .slice A pre.length c ∧ m < 18446744073709551616 ∧ pre ++ leb m = leb n ∧ OwnB 5 wr w.heap.size (.slice A pre.length c) pre ∧ Keeps w wr) (fun i _ _ => (intOf i).toNat)
  case atStart => exact ⟨n, [], none, 0, rfl, rfl, HN.out, rfl, OwnB.nil _ _ _, Keeps.refl w⟩
  case round =>
    obtain ⟨m, pre, A, c, rfl, rfl, hm, hpre, hown, hk⟩ := hrel
    have hle : pre.length ≤ 9 := by
      have h1 := congrArg List.length hpre
      have h2 := leb_pos m
      have h3 := HL.out
      rw [List.length_append] at h1
      omega
    have HP := Lib.hid hpre
    have HO := Lib.hid hown
    have HK := Lib.hid hk
    clear hpre hown hk
    generalize hpl : pre.length = pl at hle HO
    have HPL := Lib.hid hpl
    clear hpl
    by_cases hlt : m < 128
    · have hread : ∀ wr : World, Reads (wr.alloc (.cells #[.int .u8 (m : Int)] 5)) (some ⟨wr.heap.size, 0, none⟩) [UInt8.ofNat m] := fun wr => Reads.new wr _ _ _ _ (by show [Value.int .u8 (m : Int)] = [Value.int .u8 (((UInt8.ofNat m).toNat : Nat) : Int)]; rw [byte_last m hlt])
      have HR := Lib.hid (hread wr)
      clear hread
      go_wp2_with (at_builtin; refine wpList_append_bytes (w0 := wr) w.heap.size rfl _ _ 25 5 rfl Tryz.underlying25 info_byte (.slice A pl c) pre [UInt8.ofNat m] rfl ?c0 (some ⟨wr.heap.size, 0, none⟩) 1 rfl HR.out ?c2 ?c3 ?c4 ?_)
      case c0 => exact OwnB.below HO.out ((Below.refl _ wr).alloc (Nat.le_refl _) _)
      case c2 => have := HPL.out; simp; omega
      case c3 => have := HK.out.size; simp; omega
      case c4 => exact (Below.refl _ wr).alloc (by have := HK.out.size; omega) _
      intro v1 w1 hown1 hb1 _ _
      go_wp2
      go_ret
      refine ⟨_, rfl, ?_, ?_⟩
      · have := HP.out
        rw [leb_small hlt] at this
        rw [← this]
        exact hown1
      · exact Below.trans HK.out.below hb1
    · have e1 : IntKind.u8.wrap ((m : Int) % 128 + 128) = ((m % 128 + 128 : Nat) : Int) := by
        unfold IntKind.wrap
        simp [IntKind.bits, IntKind.signed]
        omega
      have hread : ∀ wr : World, Reads (wr.alloc (.cells #[.int .u8 ((m % 128 + 128 : Nat) : Int)] 5)) (some ⟨wr.heap.size, 0, none⟩) [UInt8.ofNat (m % 128 + 128)] := fun wr => Reads.new wr _ _ _ _ (by show [Value.int .u8 ((m % 128 + 128 : Nat) : Int)] = [Value.int .u8 (((UInt8.ofNat (m % 128 + 128)).toNat : Nat) : Int)]; rw [byte_more m])
      have HR := Lib.hid (hread wr)
      clear hread
      generalize hM : m % 128 + 128 = M at e1 HR
      have HM := Lib.hid hM
      clear hM
      go_wp2_with (at_builtin; refine wpList_append_bytes (w0 := wr) w.heap.size rfl _ _ 25 5 rfl Tryz.underlying25 info_byte (.slice A pl c) pre [UInt8.ofNat M] rfl ?d0 (some ⟨wr.heap.size, 0, none⟩) 1 rfl HR.out ?d2 ?d3 ?d4 ?_)
      case d0 => exact OwnB.below HO.out ((Below.refl _ wr).alloc (Nat.le_refl _) _)
      case d2 => have := HPL.out; simp; omega
      case d3 => have := HK.out.size; simp; omega
      case d4 => exact (Below.refl _ wr).alloc (by have := HK.out.size; omega) _
      intro v1 w1 hown1 hb1 _ _
      obtain ⟨A1, c1, rfl, _, _, _, _⟩ := hown1.form
      have HO1 := Lib.hid hown1
      have HB1 := Lib.hid hb1
      clear hown1 hb1
      go_wp2
      refine ⟨⟨m / 128, pre ++ [UInt8.ofNat M], A1, c1, ?_, rfl, by omega, ?_, HO1.out, Below.trans HK.out.below HB1.out⟩, ?_⟩
      · rw [show (m : Int) / 128 = ((m / 128 : Nat) : Int) by omega]
      · have := HP.out
        rw [leb_step hlt, HM.out] at this
        rw [← this]
        simp
      · simp [intOf]
        omega
end Go.Proofs.YtbhhhkilljnkfaaGreatDoor
/- The reference's Zig, Zag, Of, Fix, flag, typeAt, CheckType: their walks. Condition of the types': the value stands for the type. -/
namespace Go.Proofs.YtbhhhkilljnkfaaGreatDoor
open Go.RowKit Go.BigFrame
set_option linter.unusedVariables false
set_option linter.unusedSimpArgs false

set_option maxRecDepth 10000 in
set_option maxHeartbeats 400000 in
theorem ref3Zig_calls (n : Int) (h1 : -9223372036854775808 ≤ n) (h2 : n ≤ 9223372036854775807) (w : World) : Calls Tryz.prog 99 #[.int .i64 n] w fun e w' => e = .returned (.int .u64 ((zig n : Nat) : Int)) ∧ w = w' := by
  by_cases h0 : 0 ≤ n
  · have hz : zig n = 2 * n.toNat := by unfold zig; rw [if_pos h0]
    have HZ := Lib.hid hz
    clear hz
    obtain ⟨m, hm⟩ : ∃ m : Nat, m = n.toNat := ⟨_, rfl⟩
    obtain rfl : n = (m : Int) := by omega
    have e1 : IntKind.u64.wrap (m : Int) = (m : Int) := IntWalk.u64_in _ (by omega)
    have e2 : IntKind.u64.wrap (2 * (m : Int)) = ((2 * m : Nat) : Int) := by rw [IntWalk.u64_in _ (by omega)]; omega
    clear hm
    go_enter Tryz.func99, Tryz.ntmps99
    go_wp2
    go_ret
    exact ⟨by rw [HZ.out]; show Ending.returned (.int .u64 _) = _; congr 2 <;> omega, rfl⟩
  · have hz : zig n = 2 * (-(n + 1)).toNat + 1 := by unfold zig; rw [if_neg h0]
    have HZ := Lib.hid hz
    clear hz
    obtain ⟨m, hm⟩ : ∃ m : Nat, m = (-(n + 1)).toNat := ⟨_, rfl⟩
    have hmn : n = -(m : Int) - 1 := by omega
    have HM := Lib.hid hmn
    have e0 : IntKind.i64.wrap (n + 1) = -(m : Int) := by rw [IntWalk.i64_in _ (by omega)]; omega
    have e1 : IntKind.i64.wrap (-(-(m : Int))) = (m : Int) := by rw [IntWalk.i64_in _ (by omega)]; omega
    have e1w : wrap64 (m : Int) = (m : Int) := by unfold wrap64; omega
    have e1b : IntKind.u64.wrap (m : Int) = (m : Int) := IntWalk.u64_in _ (by omega)
    have e2 : IntKind.u64.wrap (2 * (m : Int)) = ((2 * m : Nat) : Int) := by rw [IntWalk.u64_in _ (by omega)]; omega
    have e3 : IntKind.u64.wrap (2 * (m : Int) + 1) = 2 * (m : Int) + 1 := IntWalk.u64_in _ (by omega)
    clear hm hmn
    go_enter Tryz.func99, Tryz.ntmps99
    go_wp2
    go_ret
    exact ⟨by rw [HZ.out]; show Ending.returned (.int .u64 _) = _; congr 2 <;> (have := HM.out; omega), rfl⟩

set_option maxRecDepth 10000 in
set_option maxHeartbeats 400000 in
theorem ref3Zag_calls (u : Nat) (hu : u < 18446744073709551616) (w : World) : Calls Tryz.prog 106 #[.int .u64 (u : Int)] w fun e w' => e = .returned (.int .i64 (zag u)) ∧ w = w' := by
  have hd : (u : Int) / 2 = ((u / 2 : Nat) : Int) := by omega
  have hq : u / 2 < 9223372036854775808 := by omega
  have hm : (u : Int) % 2 = ((u % 2 : Nat) : Int) := by omega
  rcases Nat.mod_two_eq_zero_or_one u with h | h
  · have hz : zag u = ((u / 2 : Nat) : Int) := by unfold zag; rw [if_pos h]
    rw [h] at hm
    have HZ := Lib.hid hz
    clear hz h
    generalize u / 2 = q at hd hq HZ
    have e1 : IntKind.i64.wrap (q : Int) = (q : Int) := IntWalk.i64_in _ (by omega)
    go_enter Tryz.func106, Tryz.ntmps106
    go_wp2
    go_ret
    exact ⟨by rw [HZ.out]; rfl, rfl⟩
  · have hz : zag u = -((u / 2 : Nat) : Int) - 1 := by unfold zag; rw [if_neg (by omega)]
    rw [h] at hm
    have HZ := Lib.hid hz
    clear hz h
    generalize u / 2 = q at hd hq HZ
    have e1 : IntKind.i64.wrap (q : Int) = (q : Int) := IntWalk.i64_in _ (by omega)
    have e2 : IntKind.i64.wrap (-(q : Int)) = -(q : Int) := IntWalk.i64_in _ (by omega)
    have e3 : IntKind.i64.wrap (-(q : Int) - 1) = -(q : Int) - 1 := IntWalk.i64_in _ (by omega)
    go_enter Tryz.func106, Tryz.ntmps106
    go_wp2
    go_ret
    exact ⟨by rw [HZ.out]; rfl, rfl⟩

set_option maxRecDepth 100000 in
set_option maxHeartbeats 400000 in
theorem refFix_calls (x : Nat) (w : World) : Calls Tryz.prog 116 #[.float .f64 x] w fun e w' => e = .returned (.float .f64 (fbits x)) ∧ w = w' := by
  cases hx : (FloatKind.f64.format.order x x == some .eq) with
  | true =>
    have hn : (FloatKind.f64.format.order x x != some .eq) = false := by rw [bne, hx]; rfl
    have he : fbits x = x := by unfold fbits; rw [hx]; rfl
    have HE := Lib.hid he
    clear hx he
    go_enter Tryz.func116, Tryz.ntmps116
    go_wp2
    go_ret
    exact ⟨by rw [HE.out]; rfl, rfl⟩
  | false =>
    have hn : (FloatKind.f64.format.order x x != some .eq) = true := by rw [bne, hx]; rfl
    have he : fbits x = 9221120237041090560 := by unfold fbits; rw [hx]; rfl
    have HE := Lib.hid he
    clear hx he
    go_enter Tryz.func116, Tryz.ntmps116
    go_wp2
    rw [run_callFunc_extern Tryz.func114 (by kernel_rfl) (by kernel_rfl) (by kernel_rfl) (e := Extern.MathFloatBits.float64frombits) (by kernel_rfl), run_from_nan]
    simp only [Result.andThen]
    rw [Oper.upon_value]
    go_wp2
    go_ret
    exact ⟨by rw [HE.out]; rfl, rfl⟩

set_option maxRecDepth 100000 in
set_option maxHeartbeats 400000 in
theorem refOf_calls (x : Nat) (w : World) : Calls Tryz.prog 113 #[.int .u64 (x : Int)] w fun e w' => e = .returned (.float .f64 (fbits x)) ∧ w = w' := by
  have HC := Lib.hid (refFix_calls x)
  go_enter Tryz.func113, Tryz.ntmps113
  go_wp2
  rw [run_callFunc_extern Tryz.func114 (by kernel_rfl) (by kernel_rfl) (by kernel_rfl) (e := Extern.MathFloatBits.float64frombits) (by kernel_rfl), run_from_any]
  simp only [Result.andThen]
  rw [Oper.upon_value]
  go_wp2_with fail
  refine (HC.out w).mono ?_
  rintro e w1 ⟨rfl, rfl⟩
  go_wp2
  go_ret
  exact ⟨rfl, rfl⟩

theorem refFlag_calls (b : Bool) (w : World) : Calls Tryz.prog 81 #[.bool b] w fun e w' => e = .returned (.int .u8 (if b then 1 else 0)) ∧ w = w' := by
  cases b
  all_goals
    go_enter Tryz.func81, Tryz.ntmps81
    go_wp2
    go_ret
    exact ⟨rfl, rfl⟩

set_option maxRecDepth 10000 in
set_option maxHeartbeats 1000000 in
theorem refTypeAt_calls (n : Nat) : ∀ (t : Ty) (d : Nat) (v : Value) (w : World), SizeOf.sizeOf t < n → d ≤ 5 → TyAt w v t →
    Calls Tryz.prog 96 #[v, .int .i64 (d : Int)] w fun e w' => e = .returned (.int .i64 (tyCheck t d)) ∧ Keeps w w' := by
  induction n with
  | zero => intro t d v w hn; exact absurd hn (by omega)
  | succ n ih =>
    intro t d v w hn hd ht
    cases t with
    | mk k ts =>
      obtain ⟨A, c, rfl⟩ := ht.form
      show Calls _ _ #[.agg #[.int .i64 k, .slice A ts.length c], _] _ _
      change TyAt w (.agg #[.int .i64 k, .slice A ts.length c]) _ at ht
      by_cases h4 : 4 < d
      · have he : tyCheck (.mk k ts) d = 62 := by rw [tyCheck, if_pos h4]
        rw [he]
        clear he ih ht hn
        generalize ts.length = L
        go_enter Tryz.func96, Tryz.ntmps96
        go_wp2
        go_ret
        exact ⟨rfl, (Keeps.refl w).alloc _⟩
      have hd4 : d ≤ 4 := by omega
      by_cases h17 : k < 1 ∨ 7 < k
      · have he : tyCheck (.mk k ts) d = 60 := by rw [tyCheck, if_neg h4, if_pos h17]
        rw [he]
        clear he ih ht hn h4
        generalize ts.length = L
        have q6 : (k == 6) = false := by rw [beq_eq_false_iff_ne]; omega
        have q7 : (k == 7) = false := by rw [beq_eq_false_iff_ne]; omega
        rcases h17 with h17 | h17
        all_goals
          go_enter Tryz.func96, Tryz.ntmps96
          go_wp2
          go_ret
          exact ⟨rfl, (Keeps.refl w).alloc _⟩
      · have hk1 : 1 ≤ k := by omega
        have hk7 : k ≤ 7 := by omega
        by_cases h67 : k = 6 ∨ k = 7
        · by_cases hl : ts.length = 1
          · obtain ⟨t, rfl⟩ := List.length_eq_one_iff.1 hl
            have he : tyCheck (.mk k [t]) d = tyCheck t (d + 1) := by rw [tyCheck, if_neg h4, if_neg h17, if_pos h67, if_pos hl, tyHead]
            rw [he]
            change TyAt w (.agg #[.int .i64 k, .slice A 1 c]) _ at ht
            change Calls _ _ #[.agg #[.int .i64 k, .slice A 1 c], _] _ _
            have hsz : SizeOf.sizeOf t < n := by
              simp only [Ty.mk.sizeOf_spec, List.cons.sizeOf_spec, List.nil.sizeOf_spec] at hn
              omega
            obtain ⟨W0, hW0⟩ : ∃ W0, W0 = w.alloc (.cells #[.int .i64 k, .slice A 1 c] 67) := ⟨_, rfl⟩
            have hk0 : Keeps w W0 := by rw [hW0]; exact (Keeps.refl w).alloc _
            obtain ⟨ad, k', s', rfl, hlt, c0, c1, hsub⟩ := (TyS.of_at ht).elem
            obtain ⟨A2, c2, n2, rfl⟩ : ∃ A2 c2 n2, s' = Value.slice A2 n2 c2 := by
              obtain ⟨A2, c2, e⟩ := hsub.form
              simp only [Value.agg.injEq, Array.mk.injEq, List.cons.injEq] at e
              exact ⟨A2, c2, _, e.2.1⟩
            have hc := ih t (d + 1) _ W0 hsz (by omega) (hsub.later hk0.below).at
            rw [show (((d + 1 : Nat) : Int)) = (d : Int) + 1 by omega, hW0] at hc
            have HC := Lib.hid hc
            have HK0 := Lib.hid hk0
            have HW0 := Lib.hid hW0
            clear he ih ht hn h4 h17 hl hk0 hW0 hsub hc
            rcases h67 with rfl | rfl
            all_goals
              go_enter Tryz.func96, Tryz.ntmps96
              go_wp2_with (go_at_call 96; refine HC.out.mono ?_; rintro e w2 ⟨rfl, hk2⟩)
              go_ret
              exact ⟨rfl, HK0.out.trans (HW0.out ▸ hk2)⟩
          · have he : tyCheck (.mk k ts) d = 60 := by rw [tyCheck, if_neg h4, if_neg h17, if_pos h67, if_neg hl]
            rw [he]
            have q1 : ((ts.length : Int) != 1) = true := by rw [bne_iff_ne]; omega
            clear he ih ht hn h4 h17 hl
            generalize ts.length = L at q1 ⊢
            rcases h67 with rfl | rfl
            all_goals
              go_enter Tryz.func96, Tryz.ntmps96
              go_wp2
              go_ret
              exact ⟨rfl, (Keeps.refl w).alloc _⟩
        · have q6 : (k == 6) = false := by rw [beq_eq_false_iff_ne]; omega
          have q7 : (k == 7) = false := by rw [beq_eq_false_iff_ne]; omega
          by_cases hl : ts.length = 0
          · have he : tyCheck (.mk k ts) d = 0 := by rw [tyCheck, if_neg h4, if_neg h17, if_neg h67, if_pos hl]
            rw [he, hl]
            clear he ih ht hn h4 h17 hl h67
            go_enter Tryz.func96, Tryz.ntmps96
            go_wp2
            go_ret
            exact ⟨rfl, (Keeps.refl w).alloc _⟩
          · have he : tyCheck (.mk k ts) d = 60 := by rw [tyCheck, if_neg h4, if_neg h17, if_neg h67, if_neg hl]
            rw [he]
            have q1 : ((ts.length : Int) != 0) = true := by rw [bne_iff_ne]; omega
            clear he ih ht hn h4 h17 hl h67
            generalize ts.length = L at q1 ⊢
            go_enter Tryz.func96, Tryz.ntmps96
            go_wp2
            go_ret
            exact ⟨rfl, (Keeps.refl w).alloc _⟩

theorem refCheckType_calls (t : Ty) (v : Value) (w : World) (ht : TyAt w v t) :
    Calls Tryz.prog 77 #[v] w fun e w' => e = .returned (.int .i64 (tyCheck t 1)) ∧ Keeps w w' := by
  obtain ⟨A, c, rfl⟩ := ht.form
  obtain ⟨W0, hW0⟩ : ∃ W0, W0 = w.alloc (.cells #[.int .i64 t.kind, .slice A t.of.length c] 67) := ⟨_, rfl⟩
  have hk0 : Keeps w W0 := by rw [hW0]; exact (Keeps.refl w).alloc _
  have HC : Hid (Calls Tryz.prog 96 #[.agg #[.int .i64 t.kind, .slice A t.of.length c], .int .i64 1] W0 fun e w' => e = .returned (.int .i64 (tyCheck t 1)) ∧ Keeps W0 w') := Lib.hid (refTypeAt_calls (SizeOf.sizeOf t + 1) t 1 _ W0 (by omega) (by omega) (ht.later hk0.below))
  have HK0 := Lib.hid hk0
  clear ht hk0
  go_enter Tryz.func77, Tryz.ntmps77
  go_wp2_with fail
  rw [← hW0]
  clear hW0
  refine HC.out.mono ?_
  rintro e w2 ⟨rfl, hk⟩
  go_wp2
  go_ret
  exact ⟨rfl, HK0.out.trans hk⟩
end Go.Proofs.YtbhhhkilljnkfaaGreatDoor
/- The walk of the reference's Is. Condition: the value and the type stand for trees; the contract of the reference's Utf. -/
namespace Go.Proofs.YtbhhhkilljnkfaaGreatDoor
open Go.RowKit Go.BigFrame
set_option linter.unusedVariables false
set_option linter.unusedSimpArgs false
attribute [local go_sem] run_storeF

set_option maxRecDepth 10000 in
set_option maxHeartbeats 2000000 in
theorem refIs_calls (hut0 : RefUtf) (x : Va) (t : Ty) (v tv : Value) (w : World) (hv : VaAt w v x) (ht : TyAt w tv t) (htb : Tabs w) :
    Calls Tryz.prog 79 #[v, tv] w fun e w' => e = .returned (.bool (decide (tyCheck t 1 = 0) && (decide (vaCheck x 1 = 0) && vaOf x t))) ∧ Keeps w w' := by
  obtain ⟨B, cb, rfl⟩ := hv.form
  obtain ⟨D, cd, rfl⟩ := ht.form
  obtain ⟨W0, hW0⟩ : ∃ W0, W0 = (w.alloc (.cells #[.int .i64 x.kind, .int .i64 x.int, .float .f64 x.fl, .string x.text, .slice B x.items.length cb] 71)).alloc (.cells #[.int .i64 t.kind, .slice D t.of.length cd] 67) := ⟨_, rfl⟩
  have hk0 : Keeps w W0 := by rw [hW0]; exact ((Keeps.refl w).alloc _).alloc _
  have hb0 : W0.heap[w.heap.size]? = some (.cells #[.int .i64 x.kind, .int .i64 x.int, .float .f64 x.fl, .string x.text, .slice B x.items.length cb] 71) := by rw [hW0]; exact obj_old (obj_new w _) _
  have hb1 : W0.heap[w.heap.size + 1]? = some (.cells #[.int .i64 t.kind, .slice D t.of.length cd] 67) := by rw [hW0]; exact obj_new_at _ _ _ (by simp)
  have h1 := fun wx (hx : Keeps W0 wx) => refCheckType_calls t _ wx (ht.later (hk0.trans hx).below)
  have h2 := fun wx (hx : Keeps W0 wx) => refVaCheckTop_calls hut0 x _ wx (hv.later (hk0.trans hx).below) (htb.below (hk0.trans hx).below)
  have h3 := fun wx (hx : Keeps W0 wx) (e1 : tyCheck t 1 = 0) (e2 : vaCheck x 1 = 0) => refVaOf_calls (SizeOf.sizeOf x + 1) x t _ _ 1 1 wx (by omega) (hv.later (hk0.trans hx).below) (ht.later (hk0.trans hx).below) e2 e1
  obtain ⟨O, hO⟩ : ∃ O, O = vaOf x t := ⟨_, rfl⟩
  rw [← hO] at h3 ⊢
  generalize tyCheck t 1 = E1 at h1 h3 ⊢
  generalize vaCheck x 1 = E2 at h2 h3 ⊢
  have HK0 := Lib.hid hk0
  have HB0 := Lib.hid hb0
  have HB1 := Lib.hid hb1
  have H1 := Lib.hid h1
  have H2 := Lib.hid h2
  have H3 := Lib.hid h3
  clear hv ht htb hut0 hk0 hb0 hb1 h1 h2 h3 hO
  generalize x.items.length = N at *
  generalize x.kind = k at *
  generalize x.int = i at *
  generalize x.fl = f at *
  generalize x.text = tx at *
  generalize t.kind = k2 at *
  generalize t.of.length = M at *
  by_cases he1 : E1 = 0
  · by_cases he2 : E2 = 0
    · subst he1 he2
      rw [decide_eq_true rfl, Bool.true_and, Bool.true_and]
      go_enter Tryz.func79, Tryz.ntmps79
      go_wp2_with fail
      rw [← hW0]
      clear hW0
      refine (H1.out W0 (Keeps.refl _)).mono ?_
      rintro e w1 ⟨rfl, hk1⟩
      have hb := (hk1.below.block _ (obj_lt HB0.out)).trans HB0.out
      obtain ⟨d0, d1, d2, d3, d4, _⟩ := cells5 hb
      have u1 := obj_lt hb
      go_wp2_with fail
      refine (H2.out w1 hk1).mono ?_
      rintro e w2 ⟨rfl, hk2⟩
      have hb := ((hk1.trans hk2).below.block _ (obj_lt HB0.out)).trans HB0.out
      obtain ⟨d0, d1, d2, d3, d4, _⟩ := cells5 hb
      have u2 := obj_lt hb
      have hc := ((hk1.trans hk2).below.block _ (obj_lt HB1.out)).trans HB1.out
      have c0 : w2.cell? ⟨w.heap.size + 1, 0, none⟩ = some (.int .i64 k2) := by rw [obj_cell hc 0]; rfl
      have c1 : w2.cell? ⟨w.heap.size + 1, 1, none⟩ = some (.slice D M cd) := by rw [obj_cell hc 1]; rfl
      have u3 := obj_lt hc
      go_wp2_with fail
      refine (H3.out w2 (hk1.trans hk2) (by trivial) (by trivial)).mono ?_
      rintro e w3 ⟨rfl, hk3⟩
      go_wp2
      go_ret
      exact ⟨rfl, HK0.out.trans ((hk1.trans hk2).trans hk3)⟩
    · subst he1
      have q : (E2 == 0) = false := by simpa using he2
      rw [decide_eq_true rfl, decide_eq_false he2, Bool.true_and, Bool.false_and]
      go_enter Tryz.func79, Tryz.ntmps79
      go_wp2_with fail
      rw [← hW0]
      clear hW0
      refine (H1.out W0 (Keeps.refl _)).mono ?_
      rintro e w1 ⟨rfl, hk1⟩
      have hb := (hk1.below.block _ (obj_lt HB0.out)).trans HB0.out
      obtain ⟨d0, d1, d2, d3, d4, _⟩ := cells5 hb
      have u1 := obj_lt hb
      go_wp2_with fail
      refine (H2.out w1 hk1).mono ?_
      rintro e w2 ⟨rfl, hk2⟩
      go_wp2
      go_ret
      exact ⟨rfl, HK0.out.trans (hk1.trans hk2)⟩
  · have q : (E1 == 0) = false := by simpa using he1
    rw [decide_eq_false he1, Bool.false_and]
    go_enter Tryz.func79, Tryz.ntmps79
    go_wp2_with fail
    rw [← hW0]
    clear hW0
    refine (H1.out W0 (Keeps.refl _)).mono ?_
    rintro e w1 ⟨rfl, hk1⟩
    have hb := (hk1.below.block _ (obj_lt HB0.out)).trans HB0.out
    obtain ⟨d0, d1, d2, d3, d4, _⟩ := cells5 hb
    have u1 := obj_lt hb
    go_wp2_with fail
    refine (H2.out w1 hk1).mono ?_
    rintro e w2 ⟨rfl, hk2⟩
    go_wp2
    go_ret
    exact ⟨rfl, HK0.out.trans (hk1.trans hk2)⟩
end Go.Proofs.YtbhhhkilljnkfaaGreatDoor
/- The walk of the reference's Name. No condition. -/
namespace Go.Proofs.YtbhhhkilljnkfaaGreatDoor
open Go.RowKit Go.Proofs
set_option linter.unusedVariables false
set_option linter.unusedSimpArgs false

theorem nameTo_first {s : ByteArray} (h0 : 0 < s.size) (h : ¬ (97 ≤ (s.get! 0).toNat ∧ (s.get! 0).toNat ≤ 122)) : nameTo s s.size = false := by
  refine nameTo_cut (n := 1) (by omega) ?_
  rw [nameTo_succ, nameTo_zero, Bool.true_and]
  exact nameB_false (by omega)

set_option maxRecDepth 20000 in
set_option maxHeartbeats 1000000 in
theorem refName_calls (s : ByteArray) (w : World) :
    Calls Tryz.prog 70 #[.string s] w fun e w' => e = .returned (.bool (nameOk s)) ∧ w = w' := by
  obtain ⟨n, hn⟩ : ∃ n, n = s.size := ⟨_, rfl⟩
  by_cases h0 : 0 < n
  · by_cases h1 : n ≤ 16
    · have hyes : nameOk s = nameTo s n := by unfold nameOk; rw [← hn]; simp [h0, h1]
      have hg0 : s.get! 0 = s[0]'(by omega) := get_at s 0 (by omega)
      have hs0 : 0 < s.size := by omega
      rw [hyes]
      by_cases hA : 97 ≤ (s[0]'hs0).toNat
      · by_cases hB : (s[0]'hs0).toNat ≤ 122
        · have hAi : (97 : Int) ≤ ((s[0]'hs0).toNat : Int) := by omega
          have hBi : ¬ (122 : Int) < ((s[0]'hs0).toNat : Int) := by omega
          have HN := Lib.hid hn
          have HA := Lib.hid hA
          have HB := Lib.hid hB
          rw [hn] at h0 h1 ⊢
          clear hyes hg0 hA hB hn
          go_enter Tryz.func70, Tryz.ntmps70
          go_wp2_with fail
          clear hAi hBi
          go_loopw [3] (fun i wr => ∃ k : Nat, k ≤ s.size ∧ i = .int .i64 (k : Int) ∧ nameTo s k = true ∧ wr = w) (fun i _ => s.size - (intOf i).toNat)
          case atStart => exact ⟨0, by omega, rfl, rfl, rfl⟩
          case round =>
            obtain ⟨k, hk, rfl, hto, rfl⟩ := hrel
            by_cases hp : k < s.size
            · have hsucc := nameTo_succ s k
              have hg : s.get! k = s[k]'hp := get_at s k hp
              rw [hto, Bool.true_and, hg] at hsucc
              have hfirst : k = 0 → 97 ≤ (s[k]'hp).toNat ∧ (s[k]'hp).toNat ≤ 122 := fun h => by subst h; exact ⟨HA.out, HB.out⟩
              have HF := Lib.hid hfirst
              have HTO := Lib.hid hto
              have HS := Lib.hid hsucc
              clear hto hsucc hg hfirst
              obtain ⟨b1, q1⟩ : ∃ b, decide (((s[k]'hp).toNat : Int) < 97) = b := ⟨_, rfl⟩
              obtain ⟨b2, q2⟩ : ∃ b, decide ((122 : Int) < ((s[k]'hp).toNat : Int)) = b := ⟨_, rfl⟩
              obtain ⟨b3, q3⟩ : ∃ b, decide (((s[k]'hp).toNat : Int) < 48) = b := ⟨_, rfl⟩
              obtain ⟨b4, q4⟩ : ∃ b, decide ((57 : Int) < ((s[k]'hp).toNat : Int)) = b := ⟨_, rfl⟩
              obtain ⟨b5, q5⟩ : ∃ b, (((s[k]'hp).toNat : Int) != 95) = b := ⟨_, rfl⟩
              cases b1 <;> cases b2 <;> cases b3 <;> cases b4 <;> cases b5
              all_goals try (exfalso; simp only [decide_eq_true_eq, decide_eq_false_iff_not, beq_iff_eq, bne_iff_ne, beq_eq_false_iff_ne, bne_eq_false_iff_eq, ne_eq] at q1 q2 q3 q4 q5; omega)
              all_goals go_wp2
              all_goals first
                | (go_ret
                   refine ⟨ret_bool ?_, rfl⟩
                   refine (nameTo_cut (n := k + 1) (by omega) ?_).symm
                   rw [HS.out]
                   simp only [decide_eq_true_eq, decide_eq_false_iff_not, beq_iff_eq, bne_iff_ne, beq_eq_false_iff_ne, bne_eq_false_iff_eq, ne_eq] at q1 q2 q3 q4 q5
                   exact nameB_false (by omega))
                | (refine ⟨⟨k + 1, by omega, by go_num, ?_, trivial⟩, by simp [intOf]; omega⟩
                   rw [HS.out]
                   simp only [decide_eq_true_eq, decide_eq_false_iff_not, beq_iff_eq, bne_iff_ne, beq_eq_false_iff_ne, bne_eq_false_iff_eq, ne_eq] at q1 q2 q3 q4 q5
                   have := HF.out
                   exact nameB_true (by omega))
            · obtain rfl : k = s.size := by omega
              have HTO := Lib.hid hto
              clear hto
              go_wp2
              go_ret
              exact ⟨ret_bool HTO.out.symm, rfl⟩
        · have hf := nameTo_first hs0 (by rw [hg0]; omega)
          rw [hn, hf]
          have hAi : (97 : Int) ≤ ((s[0]'hs0).toNat : Int) := by omega
          have hBi : (122 : Int) < ((s[0]'hs0).toNat : Int) := by omega
          rw [hn] at h0 h1
          clear hyes hg0 hA hB hf hn
          go_enter Tryz.func70, Tryz.ntmps70
          go_wp2
          go_ret
          exact ⟨rfl, rfl⟩
      · have hf := nameTo_first hs0 (by rw [hg0]; omega)
        rw [hn, hf]
        have hAi : ((s[0]'hs0).toNat : Int) < 97 := by omega
        rw [hn] at h0 h1
        clear hyes hg0 hA hf hn
        go_enter Tryz.func70, Tryz.ntmps70
        go_wp2
        go_ret
        exact ⟨rfl, rfl⟩
    · have hno : nameOk s = false := by unfold nameOk; rw [← hn]; simp [h1]
      have HN := Lib.hid hno
      rw [hno]
      clear hno
      go_enter Tryz.func70, Tryz.ntmps70
      go_wp2
      go_ret
      exact ⟨rfl, rfl⟩
  · have hno : nameOk s = false := by unfold nameOk; rw [← hn]; simp [h0]
    rw [hno]
    clear hno
    go_enter Tryz.func70, Tryz.ntmps70
    go_wp2
    go_ret
    exact ⟨rfl, rfl⟩
end Go.Proofs.YtbhhhkilljnkfaaGreatDoor
/- The walk of the reference's Find of a schema. Condition: the slice stands for columns. -/
namespace Go.Proofs.YtbhhhkilljnkfaaGreatDoor
open Go.RowKit Go.BigFrame
set_option linter.unusedVariables false
set_option linter.unusedSimpArgs false
attribute [local go_sem] run_store_float

set_option maxRecDepth 20000 in
set_option maxHeartbeats 1000000 in
theorem refFind_calls (A : Option Addr) (c : Nat) (S : Nat → Prop) (l : List Col) (nm : ByteArray) (w : World) (hs : SchS w S A l) :
    Calls Tryz.prog 71 #[.agg #[.slice A l.length c], .string nm] w fun e w' => e = .returned (.tuple #[.int .i64 (((findCol l nm).1 : Nat) : Int), .bool (findCol l nm).2]) ∧ Keeps w w' := by
  have hlen := hs.len
  generalize hL : l.length = L at hlen ⊢
  generalize hR : findCol l nm = R
  have HL := Lib.hid hL
  have HR := Lib.hid hR.symm
  have HS := Lib.hid hs
  clear hs hL hR
  obtain ⟨W, hW⟩ : ∃ W, W = w.alloc (.cells #[.slice A L c] 24) := ⟨_, rfl⟩
  have hk0 : Keeps w W := by rw [hW]; exact (Keeps.refl w).alloc _
  have hb0 : W.heap[w.heap.size]? = some (.cells #[.slice A L c] 24) := by rw [hW]; exact obj_new w _
  have HB := Lib.hid hb0
  have HK := Lib.hid hk0
  clear hb0 hk0
  go_enter Tryz.func71, Tryz.ntmps71
  go_wp2_with fail
  go_loopw [6] (fun i wr => ∃ k : Nat, k ≤ L ∧ i = .int .i64 (k : Int) ∧ R = findFrom (l.drop k) k nm ∧ wr = W) (fun i _ => L - (intOf i).toNat)
  case atStart => exact ⟨0, by omega, rfl, HR.out, hW.symm⟩
  case round =>
    obtain ⟨k, hk, rfl, hres, rfl⟩ := hrel
    clear hW
    have hbc0 := (cells1 HB.out).1
    by_cases hlt : k < L
    · have hlt1 : k < l.length := by rw [HL.out]; exact hlt
      obtain ⟨ad, x0, x1, x2, x3, x4, x5, x6, x7, x8, rfl, _, hcol, c0, c1, c2, c3, c4, c5, c6, c7, c8⟩ := (HS.out.later HK.out.below).get k hlt1
      have hd : findFrom (l.drop k) k nm = if (l[k]'hlt1).name = nm then (k, true) else findFrom (l.drop (k + 1)) (k + 1) nm := by
        rw [List.drop_eq_getElem_cons hlt1, findFrom]
      rw [hd] at hres
      obtain ⟨⟨A2, k2, e2⟩, A8, k8, e8⟩ := hcol.form
      rw [hcol.nm] at c0
      rw [hcol.tk] at c1
      rw [e2] at c2
      rw [hcol.hs] at c3
      rw [hcol.dk] at c4
      rw [hcol.di] at c5
      rw [hcol.df] at c6
      rw [hcol.dt] at c7
      rw [e8] at c8
      clear hcol e2 e8 hd
      generalize hnx : (l[k]'hlt1).name = x at c0 hres
      generalize (l[k]'hlt1).ty.of.length = n2 at c2
      generalize (l[k]'hlt1).dflt.items.length = n8 at c8
      generalize (l[k]'hlt1).ty.kind = i1 at c1
      generalize (l[k]'hlt1).has = b3 at c3
      generalize (l[k]'hlt1).dflt.kind = i4 at c4
      generalize (l[k]'hlt1).dflt.int = i5 at c5
      generalize (l[k]'hlt1).dflt.fl = f6 at c6
      generalize (l[k]'hlt1).dflt.text = t7 at c7
      clear hnx
      by_cases hq : x = nm
      · subst hq
        rw [if_pos rfl] at hres
        have HRES := Lib.hid hres
        clear hres
        go_wp2
        go_ret2
        exact ⟨by rw [HRES.out]; rfl, HK.out⟩
      · rw [if_neg hq] at hres
        have HRES := Lib.hid hres
        have q4 := texts_ne hq
        clear hres hq
        go_wp2
        exact ⟨⟨k + 1, by omega, by go_num, HRES.out, trivial⟩, by simp [intOf]; omega⟩
    · have e : l.drop k = [] := List.drop_eq_nil_of_le (by rw [HL.out]; omega)
      rw [e, findFrom] at hres
      have HRES := Lib.hid hres
      clear hres e
      go_wp2
      go_ret2
      exact ⟨by rw [HRES.out]; rfl, HK.out⟩
end Go.Proofs.YtbhhhkilljnkfaaGreatDoor
/- The walk of the reference's column. Condition: the slice stands for columns, the cells for one, the tables of unicode/utf8 are as laid. -/
namespace Go.Proofs.YtbhhhkilljnkfaaGreatDoor
open Go.RowKit Go.BigFrame
set_option linter.unusedVariables false
set_option linter.unusedSimpArgs false
attribute [local go_sem] run_storeF

theorem refUtf : RefUtf := fun s w h => refUtf_calls s w h
theorem SchS.take {w : World} {S : Nat → Prop} {A : Option Addr} {l : List Col} (h : SchS w S A l) (n : Nat) : SchS w S A (l.take n) := by
  obtain ⟨xs, hr, hc⟩ := h.ex
  have hl := h.len
  refine ⟨⟨xs.take (9 * n), hr.take _, ?_, fun j hj => ?_⟩, fun a e hn => h.blk a e (fun e0 => hn (by rw [e0]; simp)), by rw [List.length_take]; omega⟩
  · rw [List.length_take, List.length_take, hc.1]; omega
  · rw [List.length_take] at hj
    obtain ⟨x0, x1, x2, x3, x4, x5, x6, x7, x8, ⟨a0, a1, a2, a3, a4, a5, a6, a7, a8⟩, b⟩ := hc.2 j (by omega)
    refine ⟨x0, x1, x2, x3, x4, x5, x6, x7, x8, ⟨?_, ?_, ?_, ?_, ?_, ?_, ?_, ?_, ?_⟩, by rw [List.getElem_take]; exact b⟩
    all_goals rw [List.getElem?_take, if_pos (by omega)]; assumption
theorem nameIn_take (l : List Col) (m : Nat) (h : m < l.length) (s : ByteArray) : nameIn ((l.take (m + 1)).map Col.name) s = (nameIn ((l.take m).map Col.name) s || decide ((l[m]'h).name = s)) := by
  rw [List.take_succ_eq_append_getElem h, List.map_append]
  exact nameIn_append _ _ _
theorem nameIn_more (l : List Col) (m : Nat) (s : ByteArray) (h : nameIn ((l.take m).map Col.name) s = true) : nameIn (l.map Col.name) s = true := by
  unfold nameIn at *
  rw [List.any_eq_true] at *
  obtain ⟨x, hx, hd⟩ := h
  refine ⟨x, ?_, hd⟩
  rw [List.mem_map] at *
  obtain ⟨c, hc, e⟩ := hx
  exact ⟨c, List.mem_of_mem_take hc, e⟩
theorem zero_at7 (w : World) : VaAt w (.agg #[.int .i64 0, .int .i64 0, .float .f64 0, .string ⟨#[]⟩, .slice none 0 0]) vaZero := (VaS.leaf w (fun _ => True) 0 0 0 ⟨#[]⟩ none 0).at

set_option maxRecDepth 20000 in
set_option maxHeartbeats 4000000 in
theorem refColumn_calls (A : Option Addr) (c : Nat) (l : List Col) (x0 x1 x2 x3 x4 x5 x6 x7 x8 : Value) (y : Col) (w : World) (hs : SchS w (fun b => b < w.heap.size) A l) (hcol : ColC w (fun b => b < w.heap.size) x0 x1 x2 x3 x4 x5 x6 x7 x8 y) (htb : Tabs w) :
    Calls Tryz.prog 59 #[.slice A l.length c, .agg #[x0, x1, x2, x3, x4, x5, x6, x7, x8]] w fun e w' => e = .returned (.int .i64 (colCheck (l.map Col.name) y)) ∧ Keeps w w' := by
  obtain ⟨R, hR⟩ : ∃ R, R = colCheck (l.map Col.name) y := ⟨_, rfl⟩
  rw [← hR]
  unfold colCheck at hR
  have hil := hs.len
  obtain ⟨⟨A2, k2, e2⟩, A8, k8, e8⟩ := hcol.form
  have hnm := hcol.nm; have htkd := hcol.tk; have hhs := hcol.hs; have hdk := hcol.dk; have hdi := hcol.di; have hdf := hcol.df; have hdt := hcol.dt
  subst hnm htkd e2 hhs hdk hdi hdf hdt e8
  obtain ⟨W1, hW1⟩ : ∃ W1, W1 = w.alloc (.cells #[.string y.name, .int .i64 y.ty.kind, .slice A2 y.ty.of.length k2, .bool y.has, .int .i64 y.dflt.kind, .int .i64 y.dflt.int, .float .f64 y.dflt.fl, .string y.dflt.text, .slice A8 y.dflt.items.length k8] 73) := ⟨_, rfl⟩
  have hk1 : Keeps w W1 := by rw [hW1]; exact (Keeps.refl w).alloc _
  have hbc : W1.heap[w.heap.size]? = some (.cells #[.string y.name, .int .i64 y.ty.kind, .slice A2 y.ty.of.length k2, .bool y.has, .int .i64 y.dflt.kind, .int .i64 y.dflt.int, .float .f64 y.dflt.fl, .string y.dflt.text, .slice A8 y.dflt.items.length k8] 73) := by rw [hW1]; exact obj_new w _
  have HN := Lib.hid (refName_calls y.name W1)
  have HR := Lib.hid hR
  have HS := Lib.hid hs
  have HCOL := Lib.hid hcol
  have HTB := Lib.hid htb
  have HBC := Lib.hid hbc
  have HK1 := Lib.hid hk1
  clear hR hs hcol htb hbc hk1
  generalize hLn : l.length = N at hil ⊢
  have HL := Lib.hid hLn
  clear hLn
  cases hno : nameOk y.name with
  | false =>
    rw [hno] at HN
    have HE : Hid (R = 70) := Lib.hid (by rw [HR.out, if_pos hno])
    clear hno
    go_enter Tryz.func59, Tryz.ntmps59
    go_wp2_with fail
    rw [← hW1]
    clear hW1
    refine HN.out.mono ?_
    rintro e w1 ⟨rfl, rfl⟩
    go_wp2
    go_ret
    exact ⟨by rw [HE.out]; rfl, HK1.out⟩
  | true =>
  rw [hno] at HN
  have HR2 : Hid (R = if nameIn (l.map Col.name) y.name = true then 71 else if tyCheck y.ty 1 ≠ 0 then tyCheck y.ty 1
      else if y.has = false then (if Va.same y.dflt vaZero = true then 0 else 80)
      else if vaCheck y.dflt 1 ≠ 0 then vaCheck y.dflt 1 else if vaOf y.dflt y.ty = true then 0 else 80) := Lib.hid (by rw [HR.out, if_neg (by rw [hno]; simp)])
  clear hno HR
  go_enter Tryz.func59, Tryz.ntmps59
  go_wp2_with fail
  rw [← hW1]
  clear hW1
  refine HN.out.mono ?_
  rintro e w1 ⟨rfl, rfl⟩
  clear HN
  go_wp2_with fail
  go_loopw [6] (fun j wr => ∃ m : Nat, m ≤ N ∧ j = .int .i64 (m : Int) ∧ nameIn ((l.take m).map Col.name) y.name = false ∧ Keeps W1 wr) (fun j _ => N - (intOf j).toNat)
  case atStart => exact ⟨0, Nat.zero_le _, rfl, rfl, Keeps.refl _⟩
  case round =>
    obtain ⟨m, hm, rfl, hni, hkp⟩ := hrel
    have hbr := (hkp.below.block _ (obj_lt HBC.out)).trans HBC.out
    obtain ⟨⟨d0, d1, d2, d3, d4, d5, d6, d7, d8⟩, _⟩ := cells9 hbr
    have ur := obj_lt hbr
    have hkw := HK1.out.trans hkp
    by_cases hlt : m < N
    · have hlt1 : m < l.length := by rw [HL.out]; exact hlt
      obtain ⟨ad, z0, z1, z2, z3, z4, z5, z6, z7, z8, rfl, _, hz, c0, _⟩ := (HS.out.later hkw.below).get m hlt1
      rw [hz.nm] at c0
      have htk := nameIn_take l m hlt1 y.name
      rw [hni, Bool.false_or] at htk
      have hmore := nameIn_more l (m + 1) y.name
      have HTK := Lib.hid htk
      have HMO := Lib.hid hmore
      have HKP := Lib.hid hkp
      have HKW := Lib.hid hkw
      clear htk hmore hni hz hkp hkw hbr d1 d2 d3 d4 d5 d6 d7 d8
      generalize hxn : (l[m]'hlt1).name = xn at c0 HTK
      clear hxn hlt1
      by_cases hq : xn = y.name
      · have q4 : (xn.toList == y.name.toList) = true := by rw [hq]; simp
        have HE : Hid (R = 71) := Lib.hid (by rw [HR2.out, if_pos (HMO.out (by rw [HTK.out]; simpa using hq))])
        clear hq
        go_wp2_with fail
        go_quiet (fail)
        go_wp2
        go_ret
        exact ⟨by rw [HE.out]; rfl, HKW.out.quiet ⟨_, rfl⟩⟩
      · have q4 : (xn.toList == y.name.toList) = false := texts_ne hq
        have HNI : Hid (nameIn ((l.take (m + 1)).map Col.name) y.name = false) := Lib.hid (by rw [HTK.out]; simpa using hq)
        clear hq
        go_wp2_with fail
        go_quiet (fail)
        go_wp2
        exact ⟨⟨m + 1, by omega, by go_num, HNI.out, HKP.out.quiet ⟨_, rfl⟩⟩, by simp [intOf]; omega⟩
    · have e : l.take m = l := List.take_of_length_le (by rw [HL.out]; omega)
      rw [e] at hni
      have HR3 : Hid (R = if tyCheck y.ty 1 ≠ 0 then tyCheck y.ty 1
        else if y.has = false then (if Va.same y.dflt vaZero = true then 0 else 80)
        else if vaCheck y.dflt 1 ≠ 0 then vaCheck y.dflt 1 else if vaOf y.dflt y.ty = true then 0 else 80) := Lib.hid (by rw [HR2.out, if_neg (by rw [hni]; simp)])
      have hct := refCheckType_calls y.ty _ wr (HCOL.out.ty.later hkw.below).at
      have HCT := Lib.hid hct
      have HKW := Lib.hid hkw
      have HBR := Lib.hid hbr
      clear e hni hct hkw hbr hkp HR2
      by_cases hte : tyCheck y.ty 1 = 0
      case neg =>
        have HE : Hid (R = tyCheck y.ty 1) := Lib.hid (by rw [HR3.out, if_pos hte])
        have qe : (tyCheck y.ty 1 != 0) = true := by simpa using hte
        generalize tyCheck y.ty 1 = E at HCT HE qe
        clear hte HR3
        go_wp2_with fail
        refine HCT.out.mono ?_
        rintro e w4 ⟨rfl, hk4⟩
        go_wp2
        go_ret
        exact ⟨by rw [HE.out]; rfl, HKW.out.trans hk4⟩
      case pos =>
      have HR4 : Hid (R = if y.has = false then (if Va.same y.dflt vaZero = true then 0 else 80)
        else if vaCheck y.dflt 1 ≠ 0 then vaCheck y.dflt 1 else if vaOf y.dflt y.ty = true then 0 else 80) := Lib.hid (by rw [HR3.out, if_neg (by rw [hte]; simp)])
      have HTE := Lib.hid hte
      rw [hte] at HCT
      clear hte HR3
      go_wp2_with fail
      refine HCT.out.mono ?_
      rintro e w4 ⟨rfl, hk4⟩
      have hb4 := (hk4.below.block _ (obj_lt HBR.out)).trans HBR.out
      clear d0 d1 d2 d3 d4 d5 d6 d7 d8 ur
      obtain ⟨⟨d0, d1, d2, d3, d4, d5, d6, d7, d8⟩, _⟩ := cells9 hb4
      have u4 := obj_lt hb4
      have HB4 := Lib.hid hb4
      have HKW4 := Lib.hid (HKW.out.trans hk4)
      clear hb4 hk4 HCT HBR HKW
      have hdv4 := HCOL.out.dv.later HKW4.out.below
      have hty4 := HCOL.out.ty.later HKW4.out.below
      cases hh : y.has with
      | false =>
        rw [hh] at d3
        have hsm := refSameValue_calls (SizeOf.sizeOf y.dflt + 1) y.dflt vaZero _ _ w4 (by omega) hdv4.at (zero_at7 w4)
        have HR5 : Hid (R = if Va.same y.dflt vaZero = true then 0 else 80) := Lib.hid (by rw [HR4.out, if_pos hh])
        clear hdv4 hty4 HR4 hh
        cases hs : Va.same y.dflt vaZero with
        | false =>
          rw [hs] at hsm
          have HE : Hid (R = 80) := Lib.hid (by rw [HR5.out, if_neg (by rw [hs]; simp)])
          have HSM := Lib.hid hsm
          clear hsm hs HR5
          go_wp2_with fail
          refine HSM.out.mono ?_
          rintro e w5 ⟨rfl, hk5⟩
          go_wp2
          go_ret
          exact ⟨by rw [HE.out]; rfl, HKW4.out.trans hk5⟩
        | true =>
          rw [hs] at hsm
          have HE : Hid (R = 0) := Lib.hid (by rw [HR5.out, if_pos hs])
          have HSM := Lib.hid hsm
          clear hsm hs HR5
          go_wp2_with fail
          refine HSM.out.mono ?_
          rintro e w5 ⟨rfl, hk5⟩
          go_wp2
          go_ret
          exact ⟨by rw [HE.out]; rfl, HKW4.out.trans hk5⟩
      | true =>
        rw [hh] at d3
        have hvc := refVaCheckTop_calls refUtf y.dflt _ w4 hdv4.at (HTB.out.below HKW4.out.below)
        have HR5 : Hid (R = if vaCheck y.dflt 1 ≠ 0 then vaCheck y.dflt 1 else if vaOf y.dflt y.ty = true then 0 else 80) := Lib.hid (by rw [HR4.out, if_neg (by rw [hh]; simp)])
        have HH := Lib.hid hh
        have HDV4 := Lib.hid hdv4
        have HTY4 := Lib.hid hty4
        clear hdv4 hty4 HR4 hh
        by_cases hve : vaCheck y.dflt 1 = 0
        case neg =>
          have HE : Hid (R = vaCheck y.dflt 1) := Lib.hid (by rw [HR5.out, if_pos hve])
          have qe : (vaCheck y.dflt 1 != 0) = true := by simpa using hve
          generalize vaCheck y.dflt 1 = E at hvc HE qe
          have HVC := Lib.hid hvc
          clear hvc hve HR5
          go_wp2_with fail
          refine HVC.out.mono ?_
          rintro e w5 ⟨rfl, hk5⟩
          go_wp2
          go_ret
          exact ⟨by rw [HE.out]; rfl, HKW4.out.trans hk5⟩
        case pos =>
        have HR6 : Hid (R = if vaOf y.dflt y.ty = true then 0 else 80) := Lib.hid (by rw [HR5.out, if_neg (by rw [hve]; simp)])
        rw [hve] at hvc
        have HVC := Lib.hid hvc
        have HVE := Lib.hid hve
        clear hvc hve HR5
        go_wp2_with fail
        refine HVC.out.mono ?_
        rintro e w5 ⟨rfl, hk5⟩
        have hb5 := (hk5.below.block _ (obj_lt HB4.out)).trans HB4.out
        have hof := refIs_calls refUtf y.dflt y.ty _ _ w5 (HDV4.out.later hk5.below).at (HTY4.out.later hk5.below).at ((HTB.out.below HKW4.out.below).below hk5.below)
        rw [HTE.out, HVE.out, decide_eq_true rfl, Bool.true_and, Bool.true_and] at hof
        clear d0 d1 d2 d3 d4 d5 d6 d7 d8 u4
        obtain ⟨⟨d0, d1, d2, d3, d4, d5, d6, d7, d8⟩, _⟩ := cells9 hb5
        rw [HH.out] at d3
        have u5 := obj_lt hb5
        have HKW5 := Lib.hid (HKW4.out.trans hk5)
        clear hb5 hk5 HB4 HKW4 HVC HDV4 HTY4
        cases hs : vaOf y.dflt y.ty with
        | false =>
          rw [hs] at hof
          have HE : Hid (R = 80) := Lib.hid (by rw [HR6.out, if_neg (by rw [hs]; simp)])
          have HOF := Lib.hid hof
          clear hof hs HR6
          go_wp2_with fail
          refine HOF.out.mono ?_
          rintro e w6 ⟨rfl, hk6⟩
          go_wp2
          go_ret
          exact ⟨by rw [HE.out]; rfl, HKW5.out.trans hk6⟩
        | true =>
          rw [hs] at hof
          have HE : Hid (R = 0) := Lib.hid (by rw [HR6.out, if_pos hs])
          have HOF := Lib.hid hof
          clear hof hs HR6
          go_wp2_with fail
          refine HOF.out.mono ?_
          rintro e w6 ⟨rfl, hk6⟩
          go_wp2
          go_ret
          exact ⟨by rw [HE.out]; rfl, HKW5.out.trans hk6⟩
end Go.Proofs.YtbhhhkilljnkfaaGreatDoor
/- The walk of the reference's typeBytes. Condition: the value stands for a type that may be. -/
namespace Go.Proofs.YtbhhhkilljnkfaaGreatDoor
open Go.RowKit Go.BigFrame
set_option linter.unusedVariables false
set_option linter.unusedSimpArgs false

/-- a call that answers new bytes -/
structure NewB (w : World) (l : List UInt8) (e : Ending) (w' : World) : Prop where
  ex : ∃ v, e = .returned v ∧ OwnB 5 w' w.heap.size v l ∧ Keeps w w'
/-- a row of one's own, its length a letter -/
theorem OwnB.named {e : TypeId} {w : World} {base : Nat} {v : Value} {l l' : List UInt8} (h : OwnB e w base v l) (hl : l = l') : ∃ A M c, v = .slice A M c ∧ OwnB e w base (.slice A M c) l' := by
  obtain ⟨A, c, rfl, _⟩ := h.form
  exact ⟨A, _, c, rfl, hl ▸ h⟩
/-- a row of one's own that is read -/
theorem OwnB.seen {e : TypeId} {w : World} {base : Nat} {v : Value} {l : List UInt8} (h : OwnB e w base v l) : ∃ A M c, v = .slice A M c ∧ Hid (l.length = M) ∧ Hid (Reads w A l) := by
  obtain ⟨A, c, rfl, _, hr, _⟩ := h.form
  exact ⟨A, _, c, rfl, Lib.hid rfl, Lib.hid hr⟩
/-- an append onto new bytes -/
theorem new_grow {w w1 w2 : World} {v v' : Value} {l l' : List UInt8} (ho : OwnB 5 w1 w.heap.size v l) (hk : Keeps w w1) (hg : w1.grownBy w2 v.ownBlock) : Keeps w w2 :=
  hk.trans' hg fun j e => ho.ge j e

set_option maxRecDepth 10000 in
set_option maxHeartbeats 1000000 in
theorem refTypeBytes_calls (n : Nat) : ∀ (t : Ty) (d : Nat) (tv : Value) (w : World), n + d = 5 → tyCheck t d = 0 → TyAt w tv t →
    Calls Tryz.prog 80 #[tv] w (NewB w (putTy t)) := by
  induction n with
  | zero => intro t d tv w hd h; cases t; have := (tyCheck_ok h).1; omega
  | succ n ih =>
    intro t d tv w hd hok ht
    cases t with
    | mk k ts =>
      obtain ⟨_, hk1, hk7, h67, hno⟩ := tyCheck_ok hok
      obtain ⟨B, cB, rfl⟩ := ht.form
      change TyAt w (.agg #[.int .i64 k, .slice B ts.length cB]) _ at ht
      change Calls _ _ #[.agg #[.int .i64 k, .slice B ts.length cB]] _ _
      have hput : putTy (.mk k ts) = UInt8.ofNat k.toNat :: if k = 6 ∨ k = 7 then putTyHead ts else [] := by rw [putTy]
      generalize hR : putTy (.mk k ts) = R at hput
      obtain ⟨W0, hW0⟩ : ∃ W0, W0 = (w.alloc (.cells #[.int .i64 k, .slice B ts.length cB] 67)).alloc (.cells #[.int .u8 k] 5) := ⟨_, rfl⟩
      have hk0 : Keeps w W0 := by rw [hW0]; exact ((Keeps.refl w).alloc _).alloc _
      have hs0 : W0.heap.size = w.heap.size + 1 + 1 := by rw [hW0]; simp
      have hb0 : W0.heap[w.heap.size]? = some (.cells #[.int .i64 k, .slice B ts.length cB] 67) := by rw [hW0]; exact obj_old (obj_new w _) _
      have hkw : IntKind.u8.wrap k = k := by simp [IntKind.wrap, IntKind.bits, IntKind.signed]; omega
      have hown0 : OwnB 5 W0 w.heap.size (.slice (some ⟨w.heap.size + 1, 0, none⟩) 1 1) [UInt8.ofNat k.toNat] := by
        have h := OwnB.lit 5 (w.alloc (.cells #[.int .i64 k, .slice B ts.length cB] 67)) w.heap.size [UInt8.ofNat k.toNat] #[.int .u8 k] (by show [Value.int .u8 k] = [Value.int .u8 (((UInt8.ofNat k.toNat).toNat : Nat) : Int)]; rw [u8_of k (by omega) (by omega)]) (by simp) (by simp)
        rw [← hW0] at h
        simpa using h
      have hel : ∀ t, ts = [t] → ∃ ad k' A2 n2 c2, B = some ad ∧ w.cell? ad = some (.int .i64 k') ∧ w.cell? ⟨ad.block, ad.off + 1, none⟩ = some (.slice A2 n2 c2) ∧ ad.block < w.heap.size ∧ TyAt W0 (.agg #[.int .i64 k', .slice A2 n2 c2]) t := by
        intro t e
        subst e
        obtain ⟨ad, k', s', e, hlt, x0, x1, hsub⟩ := (TyS.of_at ht).elem
        obtain ⟨A3, c3, n3, rfl⟩ : ∃ A3 c3 n3, s' = Value.slice A3 n3 c3 := by
          obtain ⟨A3, c3, e⟩ := hsub.form
          simp only [Value.agg.injEq, Array.mk.injEq, List.cons.injEq] at e
          exact ⟨A3, c3, _, e.2.1⟩
        exact ⟨ad, k', A3, n3, c3, e, x0, x1, hlt, (hsub.later hk0.below).at⟩
      have HEL := Lib.hid hel
      have HO := Lib.hid hown0
      have HK0 := Lib.hid hk0
      have HB0 := Lib.hid hb0
      have HS0 := Lib.hid hs0
      have H67 := Lib.hid h67
      have HNO := Lib.hid hno
      have IH := Lib.hid ih
      have HP := Lib.hid hput
      clear ih hok ht hown0 hk0 hb0 hs0 h67 hno hput hR hel
      generalize hN : ts.length = N at HB0 hW0
      have HN := Lib.hid hN
      clear hN
      by_cases hk : k = 6 ∨ k = 7
      · obtain ⟨t, rfl, htc⟩ := H67.out hk
        have HE : Hid (R = UInt8.ofNat k.toNat :: putTy t) := Lib.hid (by rw [HP.out, if_pos hk, putTyHead])
        obtain rfl : N = 1 := HN.out.symm
        obtain ⟨ad, k', A2, n2, c2, rfl, x0, x1, hlt, hsub⟩ := HEL.out t rfl
        have hc := IH.out t (d + 1) _ W0 (by omega) htc hsub
        have HC := Lib.hid hc
        have hpl := putTy_length n t (d + 1) (by omega) htc
        generalize putTy t = T at HE HC hpl
        have HPL := Lib.hid hpl
        clear hc hsub IH htc HP HEL HNO H67 hpl
        rcases hk with rfl | rfl
        all_goals
          go_enter Tryz.func80, Tryz.ntmps80
          go_wp2_with fail
          rw [← hW0]
          clear hW0 x0 x1
          refine HC.out.mono ?_
          rintro e w2 ⟨v2, rfl, hown2, hk2⟩
          obtain ⟨A3, c3, rfl, _, hr3, _⟩ := hown2.form
          have HR3 := Lib.hid hr3
          have HK2 := Lib.hid (HK0.out.trans hk2)
          have HO2 := Lib.hid (HO.out.below hk2)
          clear hown2 hk2 hr3
          generalize hM : T.length = M
          have HM := Lib.hid hM
          clear hM
          go_wp2_with (at_builtin; refine wpList_append_bytes (w0 := w) w.heap.size rfl _ _ 25 5 rfl Tryz.underlying25 info_u8b _ [UInt8.ofNat (Int.toNat _)] T rfl HO2.out A3 c3 (by rw [HM.out]; rfl) HR3.out ?c2 HK2.out.size HK2.out ?_)
          case c2 => have := HPL.out; simp; omega
          intro v3 w3 hown3 hb3 _ _
          have HO3 := Lib.hid hown3
          have HB3 := Lib.hid hb3
          clear hown3 hb3
          obtain ⟨A4, c4, rfl, _⟩ := HO3.out.form
          generalize hM2 : ([UInt8.ofNat (Int.toNat _)] ++ T).length = M2 at *
          go_wp2
          go_ret
          exact ⟨_, rfl, by rw [HE.out]; exact HO3.out, HB3.out⟩
      · have HE : Hid (R = [UInt8.ofNat k.toNat]) := Lib.hid (by rw [HP.out, if_neg hk])
        have q6 : (k == 6) = false := by rw [beq_eq_false_iff_ne]; omega
        have q7 : (k == 7) = false := by rw [beq_eq_false_iff_ne]; omega
        clear hk IH HP HEL HNO H67
        go_enter Tryz.func80, Tryz.ntmps80
        go_wp2
        go_ret
        refine ⟨_, rfl, ?_, ?_⟩
        · rw [HE.out, ← hW0]; exact HO.out
        · rw [← hW0]; exact HK0.out
end Go.Proofs.YtbhhhkilljnkfaaGreatDoor
/- The walk of the reference's ValueBytes. Condition: the value may be, its numbers are of 64 bits. -/
namespace Go.Proofs.YtbhhhkilljnkfaaGreatDoor
open Go.RowKit Go.BigFrame
set_option linter.unusedVariables false
set_option linter.unusedSimpArgs false
attribute [local go_sem] run_storeF

theorem vaOwn_bool {i : Int} {f : Nat} {t : ByteArray} {l : List Va} (h : vaOwn (.mk 1 i f t l) = true) : i = 0 ∨ i = 1 := by
  rw [vaOwn] at h
  simp at h
  omega
theorem vaOwn_opt {i : Int} {f : Nat} {t : ByteArray} {l : List Va} (h : vaOwn (.mk 6 i f t l) = true) : l.length = 0 ∨ l.length = 1 := by
  rw [vaOwn] at h
  simp at h
  omega
theorem vaOwn_kind {k i : Int} {f : Nat} {t : ByteArray} {l : List Va} (h : vaOwn (.mk k i f t l) = true) : 1 ≤ k ∧ k ≤ 7 := by
  rw [vaOwn] at h
  by_cases h1 : 1 ≤ k <;> by_cases h7 : k ≤ 7
  · exact ⟨h1, h7⟩
  all_goals
    exfalso
    simp only [show ¬ k = 1 by omega, show ¬ k = 2 by omega, show ¬ k = 3 by omega, show ¬ k = 4 by omega, show ¬ k = 5 by omega, show ¬ k = 6 by omega, show ¬ k = 7 by omega] at h
    simp at h

set_option maxRecDepth 10000 in
set_option maxHeartbeats 1000000 in
theorem refVaB_one (i : Int) (hi : i = 0 ∨ i = 1) (f : Nat) (t : ByteArray) (B : Option Addr) (nb cb : Nat) (w : World) :
    Calls Tryz.prog 82 #[.agg #[.int .i64 1, .int .i64 i, .float .f64 f, .string t, .slice B nb cb]] w (NewB w [if i = 1 then 1 else 0]) := by
  obtain ⟨W0, hW0⟩ : ∃ W0, W0 = (w.alloc (.cells #[.int .i64 1, .int .i64 i, .float .f64 f, .string t, .slice B nb cb] 71)).alloc (.cells #[.int .u8 i] 5) := ⟨_, rfl⟩
  have hk0 : Keeps w W0 := by rw [hW0]; exact ((Keeps.refl w).alloc _).alloc _
  obtain ⟨y, hy⟩ : ∃ y : UInt8, y = if i = 1 then 1 else 0 := ⟨_, rfl⟩
  rw [← hy]
  have hown : OwnB 5 W0 w.heap.size (.slice (some ⟨w.heap.size + 1, 0, none⟩) 1 1) [y] := by
    have h := OwnB.lit 5 (w.alloc (.cells #[.int .i64 1, .int .i64 i, .float .f64 f, .string t, .slice B nb cb] 71)) w.heap.size [y] #[.int .u8 i] (by rw [hy]; rcases hi with rfl | rfl <;> rfl) (by simp) (by simp)
    rw [← hW0] at h
    simpa using h
  have hw : IntKind.u8.wrap i = i := by rcases hi with rfl | rfl <;> rfl
  have HO := Lib.hid hown
  have HK0 := Lib.hid hk0
  have HW0 := Lib.hid hW0
  clear hown hk0 hi hW0 hy
  go_enter Tryz.func82, Tryz.ntmps82
  go_wp2
  go_ret
  refine ⟨_, rfl, ?_, ?_⟩
  · rw [← HW0.out]; exact HO.out
  · rw [← HW0.out]; exact HK0.out

set_option maxRecDepth 10000 in
set_option maxHeartbeats 1000000 in
theorem refVaB_two (i : Int) (hi1 : -9223372036854775808 ≤ i) (hi2 : i ≤ 9223372036854775807) (f : Nat) (t : ByteArray) (B : Option Addr) (nb cb : Nat) (w : World) :
    Calls Tryz.prog 82 #[.agg #[.int .i64 2, .int .i64 i, .float .f64 f, .string t, .slice B nb cb]] w (NewB w (leb (zig i))) := by
  obtain ⟨W0, hW0⟩ : ∃ W0, W0 = w.alloc (.cells #[.int .i64 2, .int .i64 i, .float .f64 f, .string t, .slice B nb cb] 71) := ⟨_, rfl⟩
  have hk0 : Keeps w W0 := by rw [hW0]; exact (Keeps.refl w).alloc _
  have HZ := Lib.hid (ref3Zig_calls i hi1 hi2 W0)
  have HP := Lib.hid (ref3Put_calls (zig i) (zig_lt hi1 hi2) W0)
  have HK0 := Lib.hid hk0
  clear hk0
  go_enter Tryz.func82, Tryz.ntmps82
  go_wp2_with fail
  rw [← hW0]
  clear hW0
  refine HZ.out.mono ?_
  rintro e w1 ⟨rfl, rfl⟩
  go_wp2_with fail
  refine HP.out.mono ?_
  rintro e w1 ⟨v1, rfl, hown1, hk1⟩
  have HO := Lib.hid (hown1.weaken HK0.out.size)
  have HK1 := Lib.hid (HK0.out.trans hk1)
  clear hown1 hk1
  go_wp2
  go_ret
  exact ⟨v1, rfl, HO.out, HK1.out⟩

set_option maxRecDepth 10000 in
set_option maxHeartbeats 1000000 in
theorem refVaB_three (i : Int) (f : Nat) (hf : f < 18446744073709551616) (t : ByteArray) (B : Option Addr) (nb cb : Nat) (w : World) :
    Calls Tryz.prog 82 #[.agg #[.int .i64 3, .int .i64 i, .float .f64 f, .string t, .slice B nb cb]] w (NewB w (le8 (fbits f))) := by
  obtain ⟨W0, hW0⟩ : ∃ W0, W0 = w.alloc (.cells #[.int .i64 3, .int .i64 i, .float .f64 f, .string t, .slice B nb cb] 71) := ⟨_, rfl⟩
  have hk0 : Keeps w W0 := by rw [hW0]; exact (Keeps.refl w).alloc _
  have hN : fbits f < 18446744073709551616 := by unfold fbits; split <;> omega
  have HC := Lib.hid (refBits_calls f W0)
  have HK0 := Lib.hid hk0
  clear hk0
  generalize fbits f = N at HC hN ⊢
  go_enter Tryz.func82, Tryz.ntmps82
  go_wp2_with fail
  rw [← hW0]
  clear hW0
  refine HC.out.mono ?_
  rintro e w1 ⟨rfl, rfl⟩
  clear HC
  go_wp2_with fail
  go_loopw [3, 5, 6] (fun b x j wr => ∃ (k : Nat) (A' : Option Addr) (c' : Nat), k ≤ 8 ∧ j = .int .i64 (k : Int) ∧ x = .int .u64 ((N / 256 ^ k : Nat) : Int) ∧ b = .slice A' k c' ∧ OwnB 5 wr w.heap.size (.slice A' k c') ((le8 N).take k) ∧ Keeps w wr) (fun _ _ j _ => 8 - (intOf j).toNat)
  case atStart => exact ⟨0, none, 0, by omega, rfl, by simp, rfl, OwnB.nil _ _ _, HK0.out⟩
  case round =>
    obtain ⟨k, A', c', hk, rfl, rfl, rfl, hown, hkp⟩ := hrel
    have HO := Lib.hid hown
    have HK := Lib.hid hkp
    clear hown hkp
    by_cases hlt : k < 8
    · have HT := Lib.hid (le8_take N k hlt)
      have hdiv : N / 256 ^ (k + 1) = N / 256 ^ k / 256 := by rw [Nat.pow_succ, Nat.div_div_eq_div_mul]
      have hM : N / 256 ^ k < 18446744073709551616 := Nat.lt_of_le_of_lt (Nat.div_le_self _ _) hN
      generalize N / 256 ^ k = M at HT hdiv hM
      have HD := Lib.hid hdiv
      clear hdiv
      obtain ⟨W1, hW1⟩ : ∃ W1, W1 = wr.alloc (.cells #[.int .u8 ((M : Int) % 256)] 5) := ⟨_, rfl⟩
      have hk1 : Keeps wr W1 := by rw [hW1]; exact (Keeps.refl wr).alloc _
      have hr1 : Reads W1 (some ⟨wr.heap.size, 0, none⟩) [UInt8.ofNat (M % 256)] := by
        rw [hW1]; exact Reads.new _ _ _ _ _ (by show [Value.int .u8 ((M : Int) % 256)] = [Value.int .u8 (((UInt8.ofNat (M % 256)).toNat : Nat) : Int)]; rw [byte_of])
      have hw8 : IntKind.u8.wrap ((M : Int) % 256) = (M : Int) % 256 := by simp [IntKind.wrap, IntKind.bits, IntKind.signed]
      have HK1 := Lib.hid (HK.out.trans hk1)
      have HO1 := Lib.hid (HO.out.below hk1)
      have HR1 := Lib.hid hr1
      have HW1 := Lib.hid hW1
      clear hk1 hr1 hW1
      go_wp2_with (at_builtin; rw [← HW1.out]; refine wpList_append_bytes (w0 := w) w.heap.size rfl _ _ 25 5 rfl Tryz.underlying25 info_u8b (.slice A' k c') ((le8 N).take k) [UInt8.ofNat (M % 256)] rfl HO1.out (some ⟨wr.heap.size, 0, none⟩) 1 rfl HR1.out ?c2 HK1.out.size HK1.out ?_)
      case c2 => rw [List.length_take, le8_length]; simp; omega
      intro v2 w2 hown2 hb2 _ _
      have hl2 : ((le8 N).take k ++ [UInt8.ofNat (M % 256)]).length = k + 1 := by
        rw [List.length_append, List.length_take, le8_length]; simp; omega
      obtain ⟨A2, c2, e2, _⟩ := hown2.form
      rw [hl2] at e2
      subst e2
      rw [← HT.out] at hown2
      have HO2 := Lib.hid hown2
      have HB2 := Lib.hid hb2
      clear hown2 hb2 hl2
      go_wp2
      exact ⟨⟨k + 1, A2, c2, by omega, by go_num, by rw [HD.out]; go_num, rfl, HO2.out, HB2.out⟩, by simp [intOf]; omega⟩
    · have h8 : k = 8 := by omega
      subst h8
      have e8 : (le8 N).take 8 = le8 N := List.take_of_length_le (by rw [le8_length]; exact Nat.le_refl _)
      rw [e8] at HO
      clear e8
      go_wp2
      go_ret
      exact ⟨_, rfl, HO.out, HK.out⟩

set_option maxRecDepth 10000 in
set_option maxHeartbeats 1000000 in
theorem refVaB_text (k : Int) (hk : k = 4 ∨ k = 5) (i : Int) (f : Nat) (t : ByteArray) (ht : t.size ≤ 1024) (B : Option Addr) (nb cb : Nat) (w : World) :
    Calls Tryz.prog 82 #[.agg #[.int .i64 k, .int .i64 i, .float .f64 f, .string t, .slice B nb cb]] w (NewB w (textBytes t)) := by
  obtain ⟨W0, hW0⟩ : ∃ W0, W0 = w.alloc (.cells #[.int .i64 k, .int .i64 i, .float .f64 f, .string t, .slice B nb cb] 71) := ⟨_, rfl⟩
  have hk0 : Keeps w W0 := by rw [hW0]; exact (Keeps.refl w).alloc _
  have hb0 : W0.heap[w.heap.size]? = some (.cells #[.int .i64 k, .int .i64 i, .float .f64 f, .string t, .slice B nb cb] 71) := by rw [hW0]; exact obj_new w _
  have HP := Lib.hid (ref3Put_calls t.size (by omega) W0)
  have HL10 := Lib.hid (leb_le t.size (by omega))
  have HK0 := Lib.hid hk0
  have HB0 := Lib.hid hb0
  clear hk0 hb0
  rcases hk with rfl | rfl
  all_goals
    go_enter Tryz.func82, Tryz.ntmps82
    go_wp2_with fail
    rw [← hW0]
    clear hW0
    refine HP.out.mono ?_
    rintro e w1 ⟨v1, rfl, hown1, hk1⟩
    have hb1 := (hk1.below.block _ (obj_lt HB0.out)).trans HB0.out
    obtain ⟨d0, d1, d2, d3, d4, _⟩ := cells5 hb1
    have u1 := obj_lt hb1
    have HO := Lib.hid (hown1.weaken HK0.out.size)
    have HK1 := Lib.hid (HK0.out.trans hk1)
    clear hown1 hk1 hb1
    obtain ⟨A1, c1, rfl, _⟩ := HO.out.form
    generalize hm : (leb t.size).length = m at HO
    have HM := Lib.hid hm
    clear hm
    go_wp2_with (at_builtin; refine wpList_append_text w.heap.size rfl _ _ 25 9 5 rfl Tryz.underlying25 Tryz.underlying9 info_u8b (.slice A1 m c1) (leb t.size) rfl HO.out t rfl ?d1 HK1.out.size ?_)
    case d1 => have := HL10.out; omega
    intro v2 w2 hown2 hg2 _
    have HO2 := Lib.hid hown2
    have HK2 := Lib.hid (HK1.out.trans' hg2 fun j e => HO.out.ge j e)
    clear hown2 hg2
    go_wp2
    go_ret
    exact ⟨v2, rfl, HO2.out, HK2.out⟩

/-- a contract of ValueBytes at smaller values -/
def RefPutV (n : Nat) : Prop := ∀ (x : Va) (xv : Value) (d : Nat) (w : World), SizeOf.sizeOf x < n → x.wf → vaCheck x d = 0 → VaAt w xv x → (putVa x).length ≤ 140737488355000 →
    Calls Tryz.prog 82 #[xv] w (NewB w (putVa x))

set_option maxRecDepth 10000 in
set_option maxHeartbeats 4000000 in
theorem refVaB_items (k : Int) (hk : k = 6 ∨ k = 7) (n : Nat) (ih : RefPutV n) (i : Int) (f : Nat) (t : ByteArray) (B : Option Addr) (cb d : Nat) (items : List Va) (w : World)
    (hn : SizeOf.sizeOf (Va.mk k i f t items) < n + 1) (hwf : (Va.mk k i f t items).wf) (hck : vaCheck (.mk k i f t items) d = 0) (hv : VaAt w (.agg #[.int .i64 k, .int .i64 i, .float .f64 f, .string t, .slice B items.length cb]) (.mk k i f t items)) (hlen : (putVa (.mk k i f t items)).length ≤ 140737488355000) :
    Calls Tryz.prog 82 #[.agg #[.int .i64 k, .int .i64 i, .float .f64 f, .string t, .slice B items.length cb]] w (NewB w (putVa (.mk k i f t items))) := by
  obtain ⟨W0, hW0⟩ : ∃ W0, W0 = w.alloc (.cells #[.int .i64 k, .int .i64 i, .float .f64 f, .string t, .slice B items.length cb] 71) := ⟨_, rfl⟩
  have hk0 : Keeps w W0 := by rw [hW0]; exact (Keeps.refl w).alloc _
  have hb0 : W0.heap[w.heap.size]? = some (.cells #[.int .i64 k, .int .i64 i, .float .f64 f, .string t, .slice B items.length cb] 71) := by rw [hW0]; exact obj_new w _
  obtain ⟨_, how, _, hl256, _, hcs⟩ := vaCheck_ok hck
  have hwfi : Va.wfs items := by rw [Va.wf] at hwf; exact hwf.2.2.2
  obtain ⟨head, hhead⟩ : ∃ head, head = if k = 6 then [if items.length = 1 then (1 : UInt8) else 0] else leb items.length := ⟨_, rfl⟩
  have hput : putVa (.mk k i f t items) = head ++ putVas items := by
    rw [putVa, hhead]
    simp only [show ¬ k = 1 by omega, show ¬ k = 2 by omega, show ¬ k = 3 by omega, show ¬(k = 4 ∨ k = 5) by omega, if_false]
    split <;> simp
  generalize hP : putVa (.mk k i f t items) = P at hput hlen ⊢
  have hlenp : head.length + (putVas items).length ≤ 140737488355000 := by
    rw [hput, List.length_append] at hlen
    omega
  have hlh : head.length ≤ 10 := by
    rw [hhead]
    split
    · simp
    · exact leb_le _ (by omega)
  have hopt : k = 6 → items.length = 0 ∨ items.length = 1 := fun e => by subst e; exact vaOwn_opt how
  clear hP hlen
  have HV := Lib.hid hv
  have HB0 := Lib.hid hb0
  have HK0 := Lib.hid hk0
  have HPUT := Lib.hid hput
  have HWF := Lib.hid hwfi
  have HSZ := Lib.hid hn
  have IH := Lib.hid ih
  have HLP := Lib.hid hlenp
  have HLH := Lib.hid hlh
  have HCS := Lib.hid hcs
  have HOPT := Lib.hid hopt
  clear hv hb0 hk0 hput hwfi hwf hn ih hlenp hcs how hck hopt hlh
  generalize hN : items.length = N at hl256 HV HB0 hW0 hhead HOPT ⊢
  have HN := Lib.hid hN
  clear hN
  rcases hk with rfl | rfl
  · rw [if_pos rfl] at hhead
    rcases HOPT.out rfl with h | h
    · subst h
      have hhd : head = [0] := by rw [hhead]; rfl
      have HH := Lib.hid hhd
      clear hhead hhd HOPT
      obtain ⟨W1, hW1⟩ : ∃ W1, W1 = W0.alloc (.cells #[.int .u8 0] 5) := ⟨_, rfl⟩
      have hk1 : Keeps w W1 := by rw [hW1]; exact HK0.out.alloc _
      have hr1 : Reads W1 (some ⟨w.heap.size + 1, 0, none⟩) [0] := by rw [hW1]; exact Reads.new_at _ _ _ _ _ rfl _ (by rw [hW0]; simp)
      have hb1 : W1.heap[w.heap.size]? = some (.cells #[.int .i64 6, .int .i64 i, .float .f64 f, .string t, .slice B 0 cb] 71) := by rw [hW1]; exact obj_old HB0.out _
      have HK1' := Lib.hid hk1
      have HR1 := Lib.hid hr1
      have HB1' := Lib.hid hb1
      have HW1 : Hid (W1 = (w.alloc (.cells #[.int .i64 6, .int .i64 i, .float .f64 f, .string t, .slice B 0 cb] 71)).alloc (.cells #[.int .u8 0] 5)) := Lib.hid (by rw [hW1, hW0])
      clear hk1 hr1 hb1 hW1 hW0
      go_enter Tryz.func82, Tryz.ntmps82
      go_wp2_with (first | (go_at_call 81; refine (refFlag_calls _ _).mono ?_; rintro e w1 ⟨rfl, rfl⟩) | (at_builtin; rw [← HW1.out]; refine wpList_append_bytes (w0 := w) w.heap.size rfl _ _ 25 5 rfl Tryz.underlying25 info_u8b (.slice none 0 0) [] [0] rfl (OwnB.nil _ _ _) (some ⟨w.heap.size + 1, 0, none⟩) 1 rfl HR1.out (by simp) HK1'.out.size HK1'.out ?_))
      intro v1 w1 hown1 hkb1 hg1 _
      have hbx1 := (hg1.block _ (obj_lt HB1'.out) (by simp [Value.ownBlock])).trans HB1'.out
      obtain ⟨A1, M1, c1, rfl, hown1'⟩ := hown1.named (l' := head) (by rw [HH.out])
      have HO1 := Lib.hid hown1'
      have HB1 := Lib.hid hbx1
      have HK1 : Hid (Keeps w w1) := Lib.hid hkb1
      clear hown1 hown1' hbx1 hkb1 hg1
      go_wp2_with fail
      go_loopw [3, 7] (fun b j wr => ∃ (m : Nat) (A' : Option Addr) (c' M : Nat), m ≤ 0 ∧ j = .int .i64 (m : Int) ∧ b = .slice A' M c' ∧ OwnB 5 wr w.heap.size (.slice A' M c') (head ++ putVas (items.take m)) ∧ wr.heap[w.heap.size]? = some (.cells #[.int .i64 6, .int .i64 i, .float .f64 f, .string t, .slice B 0 cb] 71) ∧ Keeps w wr) (fun _ j _ => 0 - (intOf j).toNat)
      case atStart => exact ⟨0, _, _, _, Nat.zero_le _, rfl, rfl, by simpa [putVas] using HO1.out, HB1.out, HK1.out⟩
      case round =>
        obtain ⟨m, A', c', M, hm, rfl, rfl, hown, hbx, hkp⟩ := hrel
        obtain ⟨d0, d1, d2, d3, d4, _⟩ := cells5 hbx
        have u1 := obj_lt hbx
        by_cases hlt : m < 0
        · exact absurd hlt (by omega)
        · have e : items.take m = items := List.take_of_length_le (by rw [HN.out]; omega)
          rw [e, ← HPUT.out] at hown
          have HO := Lib.hid hown
          have HK := Lib.hid hkp
          clear hown hkp e hbx
          go_wp2
          go_ret
          exact ⟨_, rfl, HO.out, HK.out⟩
    · subst h
      have hhd : head = [1] := by rw [hhead]; rfl
      have HH := Lib.hid hhd
      clear hhead hhd HOPT
      obtain ⟨W1, hW1⟩ : ∃ W1, W1 = W0.alloc (.cells #[.int .u8 1] 5) := ⟨_, rfl⟩
      have hk1 : Keeps w W1 := by rw [hW1]; exact HK0.out.alloc _
      have hr1 : Reads W1 (some ⟨w.heap.size + 1, 0, none⟩) [1] := by rw [hW1]; exact Reads.new_at _ _ _ _ _ rfl _ (by rw [hW0]; simp)
      have hb1 : W1.heap[w.heap.size]? = some (.cells #[.int .i64 6, .int .i64 i, .float .f64 f, .string t, .slice B 1 cb] 71) := by rw [hW1]; exact obj_old HB0.out _
      have HK1' := Lib.hid hk1
      have HR1 := Lib.hid hr1
      have HB1' := Lib.hid hb1
      have HW1 : Hid (W1 = (w.alloc (.cells #[.int .i64 6, .int .i64 i, .float .f64 f, .string t, .slice B 1 cb] 71)).alloc (.cells #[.int .u8 1] 5)) := Lib.hid (by rw [hW1, hW0])
      clear hk1 hr1 hb1 hW1 hW0
      go_enter Tryz.func82, Tryz.ntmps82
      go_wp2_with (first | (go_at_call 81; refine (refFlag_calls _ _).mono ?_; rintro e w1 ⟨rfl, rfl⟩) | (at_builtin; rw [← HW1.out]; refine wpList_append_bytes (w0 := w) w.heap.size rfl _ _ 25 5 rfl Tryz.underlying25 info_u8b (.slice none 0 0) [] [1] rfl (OwnB.nil _ _ _) (some ⟨w.heap.size + 1, 0, none⟩) 1 rfl HR1.out (by simp) HK1'.out.size HK1'.out ?_))
      intro v1 w1 hown1 hkb1 hg1 _
      have hbx1 := (hg1.block _ (obj_lt HB1'.out) (by simp [Value.ownBlock])).trans HB1'.out
      obtain ⟨A1, M1, c1, rfl, hown1'⟩ := hown1.named (l' := head) (by rw [HH.out])
      have HO1 := Lib.hid hown1'
      have HB1 := Lib.hid hbx1
      have HK1 : Hid (Keeps w w1) := Lib.hid hkb1
      clear hown1 hown1' hbx1 hkb1 hg1
      go_wp2_with fail
      go_loopw [3, 7] (fun b j wr => ∃ (m : Nat) (A' : Option Addr) (c' M : Nat), m ≤ 1 ∧ j = .int .i64 (m : Int) ∧ b = .slice A' M c' ∧ OwnB 5 wr w.heap.size (.slice A' M c') (head ++ putVas (items.take m)) ∧ wr.heap[w.heap.size]? = some (.cells #[.int .i64 6, .int .i64 i, .float .f64 f, .string t, .slice B 1 cb] 71) ∧ Keeps w wr) (fun _ j _ => 1 - (intOf j).toNat)
      case atStart => exact ⟨0, _, _, _, Nat.zero_le _, rfl, rfl, by simpa [putVas] using HO1.out, HB1.out, HK1.out⟩
      case round =>
        obtain ⟨m, A', c', M, hm, rfl, rfl, hown, hbx, hkp⟩ := hrel
        obtain ⟨d0, d1, d2, d3, d4, _⟩ := cells5 hbx
        have u1 := obj_lt hbx
        by_cases hlt : m < 1
        · have hlt1 : m < items.length := by rw [HN.out]; exact hlt
          obtain ⟨ad, A2, c2, rfl, _, x0, x1, x2, x3, x4, hel⟩ := (VaS.of_at (HV.out.later hkp.below)).elem m hlt1
          have htk := putVas_take items m hlt1
          have hle := putVas_le items (m + 1)
          rw [htk, List.length_append] at hle
          have hsz : SizeOf.sizeOf (items[m]'hlt1) < n := by
            have h1 := List.sizeOf_lt_of_mem (List.getElem_mem hlt1)
            have h2 := HSZ.out
            simp only [Va.mk.sizeOf_spec] at h2
            omega
          have hc := IH.out (items[m]'hlt1) _ (d + 1) wr hsz (Va.wfs_get items m hlt1 HWF.out) (vaChecks_get items _ m hlt1 HCS.out) hel.at (by have h1 := HLP.out; omega)
          have HTK := Lib.hid htk
          have HLE := Lib.hid hle
          clear hel htk hsz hle
          obtain ⟨x, hx⟩ : ∃ x, x = items[m]'hlt1 := ⟨_, rfl⟩
          rw [← hx] at x0 x1 x2 x3 x4 hc HTK HLE
          have HC := Lib.hid hc
          have HO := Lib.hid hown
          have HBX := Lib.hid hbx
          have HK := Lib.hid hkp
          clear hc hown hbx hkp hx hlt1
          generalize x.items.length = nx at x4 HC
          generalize x.kind = kx at x0 HC
          generalize x.int = ix at x1 HC
          generalize x.fl = fx at x2 HC
          generalize x.text = tx at x3 HC
          go_wp2_with fail
          refine HC.out.mono ?_
          rintro e w2 ⟨v2, rfl, hown2, hk2⟩
          obtain ⟨A3, M3, c3, rfl, HM3, HR3⟩ := hown2.seen
          have HK2 := Lib.hid (HK.out.trans hk2)
          have HO2 := Lib.hid (HO.out.below hk2)
          have HB2 := Lib.hid ((hk2.below.block _ (obj_lt HBX.out)).trans HBX.out)
          clear hown2 hk2 HC d0 d1 d2 d3 d4 u1 x0 x1 x2 x3 x4
          go_wp2_with (at_builtin; refine wpList_append_bytes (w0 := w) w.heap.size rfl _ _ 25 5 rfl Tryz.underlying25 info_u8b (.slice A' M c') (head ++ putVas (items.take m)) (putVa x) rfl HO2.out A3 c3 (by rw [HM3.out]; rfl) HR3.out ?c2 HK2.out.size HK2.out ?_)
          case c2 => have := HLE.out; have := HLP.out; have := HLH.out; rw [List.length_append]; omega
          intro v3 w3 hown3 hb3 hg3 _
          have hbx3 := (hg3.block _ (obj_lt HB2.out) (fun e => own_obj_ne HO2.out HB2.out (by decide) e.symm)).trans HB2.out
          obtain ⟨A4, M4, c4, rfl, hown4⟩ := hown3.named (l' := head ++ putVas (items.take (m + 1))) (by rw [HTK.out]; try simp only [List.append_assoc])
          have HO3 := Lib.hid hown4
          have HB3 := Lib.hid hb3
          have HBX3 := Lib.hid hbx3
          clear hown3 hown4 hb3 hg3 hbx3
          go_wp2
          exact ⟨⟨m + 1, A4, c4, _, by omega, by go_num, rfl, HO3.out, HBX3.out, HB3.out⟩, by simp [intOf]; omega⟩
        · have e : items.take m = items := List.take_of_length_le (by rw [HN.out]; omega)
          rw [e, ← HPUT.out] at hown
          have HO := Lib.hid hown
          have HK := Lib.hid hkp
          clear hown hkp e hbx
          go_wp2
          go_ret
          exact ⟨_, rfl, HO.out, HK.out⟩
  · rw [if_neg (by omega)] at hhead
    have HH := Lib.hid hhead
    have HP := Lib.hid (ref3Put_calls N (by omega) W0)
    clear hhead HOPT
    go_enter Tryz.func82, Tryz.ntmps82
    go_wp2_with fail
    rw [← hW0]
    clear hW0
    refine HP.out.mono ?_
    rintro e w1 ⟨v1, rfl, hown1, hk1⟩
    obtain ⟨A1, M1, c1, rfl, hown1'⟩ := hown1.named HH.out.symm
    have HO1 := Lib.hid (hown1'.weaken HK0.out.size)
    have HB1 := Lib.hid ((hk1.below.block _ (obj_lt HB0.out)).trans HB0.out)
    have HK1 := Lib.hid (HK0.out.trans hk1)
    clear hown1 hown1' hk1 HP
    obtain ⟨d0, d1, d2, d3, d4, _⟩ := cells5 HB1.out
    have u1 := obj_lt HB1.out
    go_wp2_with fail
    clear d0 d1 d2 d3 d4 u1
    go_loopw [3, 7] (fun b j wr => ∃ (m : Nat) (A' : Option Addr) (c' M : Nat), m ≤ N ∧ j = .int .i64 (m : Int) ∧ b = .slice A' M c' ∧ OwnB 5 wr w.heap.size (.slice A' M c') (head ++ putVas (items.take m)) ∧ wr.heap[w.heap.size]? = some (.cells #[.int .i64 7, .int .i64 i, .float .f64 f, .string t, .slice B N cb] 71) ∧ Keeps w wr) (fun _ j _ => N - (intOf j).toNat)
    case atStart => exact ⟨0, _, _, _, Nat.zero_le _, rfl, rfl, by simpa [putVas] using HO1.out, HB1.out, HK1.out⟩
    case round =>
      obtain ⟨m, A', c', M, hm, rfl, rfl, hown, hbx, hkp⟩ := hrel
      obtain ⟨d0, d1, d2, d3, d4, _⟩ := cells5 hbx
      have u1 := obj_lt hbx
      by_cases hlt : m < N
      · have hlt1 : m < items.length := by rw [HN.out]; exact hlt
        obtain ⟨ad, A2, c2, rfl, _, x0, x1, x2, x3, x4, hel⟩ := (VaS.of_at (HV.out.later hkp.below)).elem m hlt1
        have htk := putVas_take items m hlt1
        have hle := putVas_le items (m + 1)
        rw [htk, List.length_append] at hle
        have hsz : SizeOf.sizeOf (items[m]'hlt1) < n := by
          have h1 := List.sizeOf_lt_of_mem (List.getElem_mem hlt1)
          have h2 := HSZ.out
          simp only [Va.mk.sizeOf_spec] at h2
          omega
        have hc := IH.out (items[m]'hlt1) _ (d + 1) wr hsz (Va.wfs_get items m hlt1 HWF.out) (vaChecks_get items _ m hlt1 HCS.out) hel.at (by have h1 := HLP.out; omega)
        have HTK := Lib.hid htk
        have HLE := Lib.hid hle
        clear hel htk hsz hle
        obtain ⟨x, hx⟩ : ∃ x, x = items[m]'hlt1 := ⟨_, rfl⟩
        rw [← hx] at x0 x1 x2 x3 x4 hc HTK HLE
        have HC := Lib.hid hc
        have HO := Lib.hid hown
        have HBX := Lib.hid hbx
        have HK := Lib.hid hkp
        clear hc hown hbx hkp hx hlt1
        generalize x.items.length = nx at x4 HC
        generalize x.kind = kx at x0 HC
        generalize x.int = ix at x1 HC
        generalize x.fl = fx at x2 HC
        generalize x.text = tx at x3 HC
        go_wp2_with fail
        refine HC.out.mono ?_
        rintro e w2 ⟨v2, rfl, hown2, hk2⟩
        obtain ⟨A3, M3, c3, rfl, HM3, HR3⟩ := hown2.seen
        have HK2 := Lib.hid (HK.out.trans hk2)
        have HO2 := Lib.hid (HO.out.below hk2)
        have HB2 := Lib.hid ((hk2.below.block _ (obj_lt HBX.out)).trans HBX.out)
        clear hown2 hk2 HC d0 d1 d2 d3 d4 u1 x0 x1 x2 x3 x4
        go_wp2_with (at_builtin; refine wpList_append_bytes (w0 := w) w.heap.size rfl _ _ 25 5 rfl Tryz.underlying25 info_u8b (.slice A' M c') (head ++ putVas (items.take m)) (putVa x) rfl HO2.out A3 c3 (by rw [HM3.out]; rfl) HR3.out ?c2 HK2.out.size HK2.out ?_)
        case c2 => have := HLE.out; have := HLP.out; have := HLH.out; rw [List.length_append]; omega
        intro v3 w3 hown3 hb3 hg3 _
        have hbx3 := (hg3.block _ (obj_lt HB2.out) (fun e => own_obj_ne HO2.out HB2.out (by decide) e.symm)).trans HB2.out
        obtain ⟨A4, M4, c4, rfl, hown4⟩ := hown3.named (l' := head ++ putVas (items.take (m + 1))) (by rw [HTK.out]; try simp only [List.append_assoc])
        have HO3 := Lib.hid hown4
        have HB3 := Lib.hid hb3
        have HBX3 := Lib.hid hbx3
        clear hown3 hown4 hb3 hg3 hbx3
        go_wp2
        exact ⟨⟨m + 1, A4, c4, _, by omega, by go_num, rfl, HO3.out, HBX3.out, HB3.out⟩, by simp [intOf]; omega⟩
      · have e : items.take m = items := List.take_of_length_le (by rw [HN.out]; omega)
        rw [e, ← HPUT.out] at hown
        have HO := Lib.hid hown
        have HK := Lib.hid hkp
        clear hown hkp e hbx
        go_wp2
        go_ret
        exact ⟨_, rfl, HO.out, HK.out⟩

theorem refValueBytes_calls (n : Nat) : RefPutV n := by
  induction n with
  | zero => intro x xv d w hn; exact absurd hn (by omega)
  | succ n ih =>
    intro x xv d w hn hwf hck hv hlen
    obtain ⟨B, cb, rfl⟩ := hv.form
    cases x with
    | mk k i f t l =>
      have how := (vaCheck_ok hck).2.1
      have hts := (vaCheck_ok hck).2.2.1
      obtain ⟨h1, h7⟩ := vaOwn_kind how
      have hw := hwf
      rw [Va.wf] at hw
      show Calls _ _ #[.agg #[.int .i64 k, .int .i64 i, .float .f64 f, .string t, .slice B l.length cb]] w _
      by_cases hk : k = 6 ∨ k = 7
      · exact refVaB_items k hk n ih i f t B cb d l w hn hwf hck hv hlen
      · obtain rfl | rfl | rfl | h45 : k = 1 ∨ k = 2 ∨ k = 3 ∨ k = 4 ∨ k = 5 := by omega
        · have := refVaB_one i (vaOwn_bool how) f t B l.length cb w
          rw [putVa, if_pos rfl]; exact this
        · have := refVaB_two i hw.1 hw.2.1 f t B l.length cb w
          rw [putVa, if_neg (by omega), if_pos rfl]; exact this
        · have := refVaB_three i f hw.2.2.1 t B l.length cb w
          rw [putVa, if_neg (by omega), if_neg (by omega), if_pos rfl]; exact this
        · have := refVaB_text k h45 i f t hts B l.length cb w
          rw [putVa, if_neg (by omega), if_neg (by omega), if_neg (by omega), if_pos h45]; exact this
end Go.Proofs.YtbhhhkilljnkfaaGreatDoor
