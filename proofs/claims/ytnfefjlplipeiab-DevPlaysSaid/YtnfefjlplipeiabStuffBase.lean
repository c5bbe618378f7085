/-
  The walks of bytes.IndexByte at a zero, and of the laws' helpers same and filled. Condition: the slices read as lists of bytes.
-/
import Derived.Test.YtnfefjlplipeiabTouch
import Derived.Test.YtnfefjlplipeiabStuffMath
import Derived.Shelf.Bytes.SlIndexAt
namespace Go.Proofs.Ytnfefjlplipeiab
open Go.RowKit Go.BigFrame
set_option linter.unusedVariables false
set_option linter.unusedSimpArgs false

def idx (l : List UInt8) : Int := if (nz l).length < l.length then ((nz l).length : Int) else -1
theorem idx_eq (l : List UInt8) : Go.Lib.indexByte l 0 = idx l := by
  unfold idx
  induction l with
  | nil => rfl
  | cons b l ih =>
    unfold Go.Lib.indexByte
    have hle := nz_le l
    by_cases h : b = 0
    · rw [nz_yes l h, if_pos (by rw [h]; rfl)]
      simp
    · have hb : (b == (0 : UInt8)) = false := by simpa using h
      rw [nz_on l h]
      simp only [hb, Bool.false_eq_true, if_false, List.length_cons]
      by_cases h2 : (nz l).length < l.length
      · rw [if_pos h2] at ih
        rw [ih, if_neg (by rw [beq_iff_eq]; omega), if_pos (by omega)]
        rfl
      · rw [if_neg h2] at ih
        rw [ih, if_pos (by rfl), if_neg (by omega)]
theorem bytesOf_nums (l : List UInt8) : Go.Lib.bytesOf (l.map fun b => ((b.toNat : Nat) : Int)) = l := by
  unfold Go.Lib.bytesOf
  rw [List.map_map]
  have : ((fun n : Int => UInt8.ofNat n.toNat) ∘ fun b : UInt8 => ((b.toNat : Nat) : Int)) = id := by
    funext b
    simp
  rw [this, List.map_id]

theorem info_u8 : (Try.prog.info? 5).map (fun i => (i.zero, i.size, i.bytes)) = some (some (.int .u8 0), 1, 1) := by kernel_rfl

set_option maxHeartbeats 1000000 in
theorem idx_calls (A : Option Addr) (c : Nat) (l : List UInt8) (w : World) (hr : Reads w A l) :
    Calls Try.prog 42 #[.slice A l.length c, .int .u8 0] w fun e w' => e = .returned (.int .i64 (idx l)) ∧ w = w' := by
  have hrun : (Extern.BytealgIndexByte.indexByte #[.slice A l.length c, .int .u8 0]).run Try.prog w = .ok (.int .i64 (idx l)) w := by
    cases A with
    | none =>
      have := hr.none
      subst this
      exact Go.Lib.run_indexByteNil w 0 c 0
    | some a =>
      have h := Go.Lib.run_indexByteAt (P := Try.prog) w a l.length c (l.map fun b => ((b.toNat : Nat) : Int)) (by simp) (fun i hi => by
        obtain ⟨ad, e, hc⟩ := hr.out i hi
        cases e
        rw [hc]
        simp [List.getD_eq_getElem?_getD, hi]) 0
      rw [bytesOf_nums] at h
      rw [h]
      have : ((0 : Int).toNat.toUInt8) = (0 : UInt8) := rfl
      rw [this, idx_eq]
  clear hr
  go_enter Try.func42, Try.ntmps42
  go_wp2
  rw [run_callFunc_extern Try.func68 (by kernel_rfl) (by kernel_rfl) (by kernel_rfl) (e := Extern.BytealgIndexByte.indexByte) (by kernel_rfl), hrun]
  simp only [Result.andThen]
  rw [Oper.upon_value]
  go_wp2
  go_ret
  exact ⟨rfl, rfl⟩

set_option maxHeartbeats 1000000 in
theorem same_calls (A B : Option Addr) (c d : Nat) (l m : List UInt8) (w : World) (hl : l.length ≤ 9223372036854775807) (hm : m.length ≤ 9223372036854775807) (hr : Reads w A l) (hr2 : Reads w B m) :
    Calls Try.prog 18 #[.slice A l.length c, .slice B m.length d] w fun e w' => e = .returned (.bool (decide (l = m))) ∧ Quiet w w' := by
  have HR := Lib.hid hr
  have HR2 := Lib.hid hr2
  clear hr hr2
  by_cases hlen : l.length = m.length
  · have b1 : ((l.length : Int) != (m.length : Int)) = false := by simp [hlen]
    have b2 : (l.length != m.length) = false := by simp [hlen]
    have HL := Lib.hid hlen
    clear hlen
    go_enter Try.func18, Try.ntmps18
    go_wp2
    go_loopw [5] (fun i wr => ∃ k : Nat, k ≤ l.length ∧ i = .int .i64 k ∧ l.take k = m.take k ∧ Quiet w wr) (fun i _ => l.length - (intOf i).toNat)
    case atStart => exact ⟨0, Nat.zero_le _, rfl, rfl, Quiet.refl w⟩
    case round =>
      obtain ⟨k, hk, rfl, htk, n, rfl⟩ := hrel
      have HK := Lib.hid htk
      clear htk b1 b2
      by_cases hlt : k < l.length
      · have hlt2 : k < m.length := by have := HL.out; omega
        obtain ⟨a1, rfl, x1⟩ := HR.out.out k hlt
        obtain ⟨a2, rfl, x2⟩ := HR2.out.out k hlt2
        have i1 : (0 : Int) ≤ (k : Int) := Int.natCast_nonneg _
        have i2 : (k : Int) < (l.length : Int) := by omega
        have i3 : (k : Int) < (m.length : Int) := by omega
        by_cases he : l[k]'hlt = m[k]'hlt2
        · have hnx : l.take (k + 1) = m.take (k + 1) := by
            rw [List.take_succ_eq_append_getElem hlt, List.take_succ_eq_append_getElem hlt2, HK.out, he]
          have hq : ((((l[k]'hlt).toNat : Nat) : Int) != (((m[k]'hlt2).toNat : Nat) : Int)) = false := by rw [he]; simp
          have HN := Lib.hid hnx
          have HE := Lib.hid he
          clear he hnx
          go_wp2
          go_quiet (fail)
          go_wp2
          exact ⟨⟨k + 1, by omega, by go_num, HN.out, ⟨_, rfl⟩⟩, by simp [intOf]; omega⟩
        · have hq : ((((l[k]'hlt).toNat : Nat) : Int) != (((m[k]'hlt2).toNat : Nat) : Int)) = true := by
            rw [bne_iff_ne]; intro e; exact he (UInt8.toNat_inj.1 (by omega))
          have HE := Lib.hid he
          clear he
          go_wp2
          go_quiet (fail)
          go_wp2
          go_ret
          refine ⟨ret_bool ?_, ⟨_, by rw [World.drewN_drewN]⟩⟩
          symm
          apply decide_eq_false
          intro h
          subst h
          exact HE.out rfl
      · go_wp2
        go_ret
        refine ⟨ret_bool ?_, ⟨_, rfl⟩⟩
        symm
        apply decide_eq_true
        have := HK.out
        rwa [List.take_of_length_le (by omega), List.take_of_length_le (by have := HL.out; omega)] at this
  · have b1 : ((l.length : Int) != (m.length : Int)) = true := by rw [bne_iff_ne]; omega
    have b2 : (l.length != m.length) = true := by rw [bne_iff_ne]; omega
    have HL := Lib.hid hlen
    clear hlen
    go_enter Try.func18, Try.ntmps18
    go_wp2
    go_ret
    refine ⟨ret_bool ?_, Quiet.refl w⟩
    symm
    apply decide_eq_false
    intro h
    exact HL.out (by rw [h])

set_option maxHeartbeats 1000000 in
theorem filled_calls (n : Nat) (b : UInt8) (w : World) (hn : n ≤ 1099511627776) :
    Calls Try.prog 13 #[.int .i64 (n : Int), .int .u8 ((b.toNat : Nat) : Int)] w fun e w' => e = .returned (.slice (some ⟨w.heap.size, 0, none⟩) n n) ∧ OwnB 5 w' w.heap.size (.slice (some ⟨w.heap.size, 0, none⟩) n n) (List.replicate n b) ∧ Below w.heap.size w w' := by
  obtain ⟨i0, hi, hzz⟩ := Option.map_eq_some_iff.1 info_u8
  simp only [Prod.mk.injEq] at hzz
  obtain ⟨hz0, hz1, hz2⟩ := hzz
  have hmk : (Instr.makeSlice 22 (.int .i64 (n : Int)) (.int .i64 (n : Int))).run Try.prog w = .ok (.slice (some ⟨w.heap.size, 0, none⟩) n n) (w.alloc (.cells (madeCells #[.int .u8 0] n) 5)) := by
    have := run_make (P := Try.prog) w 22 5 i0 (.int .u8 0) Try.underlying22 hi hz0 .i64 .i64 (n : Int) (n : Int) (by omega) (by omega) (by rw [hz2]; omega) (by omega)
    rw [this, hz1, show ((n : Int)).toNat = n by omega, Nat.mul_one]
    rfl
  clear hi hz0 hz1 hz2
  have h0 : OwnB 5 (w.alloc (.cells (madeCells #[.int .u8 0] n) 5)) w.heap.size (.slice (some ⟨w.heap.size, 0, none⟩) n n) (List.replicate n (0 : UInt8)) := by
    have h := OwnB.lit 5 w w.heap.size (List.replicate n (0 : UInt8)) (madeCells #[.int .u8 0] n) (by rw [toList_madeCells_one]; simp [u8s]) (Nat.le_refl _) (by simp; omega)
    simpa using h
  have H0 := Lib.hid h0
  clear h0
  go_enter Try.func13, Try.ntmps13
  go_wp2
  go_loopw [6] (fun i wr => ∃ k : Nat, k ≤ n ∧ i = .int .i64 (k : Int) ∧ OwnB 5 wr w.heap.size (.slice (some ⟨w.heap.size, 0, none⟩) n n) (List.replicate k b ++ List.replicate (n - k) 0) ∧ Below w.heap.size w wr) (fun i _ => n - (intOf i).toNat)
  case atStart => exact ⟨0, Nat.zero_le _, rfl, by simpa using H0.out, (Below.refl _ _).alloc (Nat.le_refl _) _⟩
  case round =>
    obtain ⟨k, hk, rfl, hown, hb⟩ := hrel
    have HO := Lib.hid hown
    have HB := Lib.hid hb
    clear hown hb hmk H0
    by_cases hlt : k < n
    · have hlen : (List.replicate k b ++ List.replicate (n - k) (0 : UInt8)).length = n := by simp; omega
      obtain ⟨x1', x2⟩ := HO.out.cell k (by rw [hlen]; exact hlt)
      obtain ⟨x, x1⟩ : ∃ x, wr.cell? ⟨w.heap.size, k, none⟩ = some x := ⟨_, x1'⟩
      clear x1'
      have hst := OwnB.store (l := List.replicate k b ++ List.replicate (n - k) (0 : UInt8)) (c := n) (by rw [hlen]; exact HO.out) k b
      rw [hlen] at hst
      have hset : (List.replicate k b ++ List.replicate (n - k) (0 : UInt8)).set k b = List.replicate (k + 1) b ++ List.replicate (n - (k + 1)) 0 := by
        rw [List.set_append_right _ _ (by simp)]
        simp only [List.length_replicate, Nat.sub_self]
        rw [show n - k = (n - (k + 1)) + 1 by omega, List.replicate_succ, List.set_cons_zero, List.replicate_succ' (n := k), List.append_assoc]
        rfl
      rw [hset] at hst
      have HS := Lib.hid hst.1
      have HG := Lib.hid (HB.out.grown hst.2 HB.out.size (fun j e => by cases e; exact Nat.le_refl _))
      clear hst hset hlen
      go_wp2
      exact ⟨⟨k + 1, by omega, by go_num, HS.out, HG.out⟩, by simp [intOf]; omega⟩
    · have hke : k = n := by omega
      subst hke
      have HP := Lib.hid (show OwnB 5 wr w.heap.size (.slice (some ⟨w.heap.size, 0, none⟩) k k) (List.replicate k b) by have := HO.out; simpa using this)
      clear HO
      go_wp2
      go_ret
      exact ⟨rfl, HP.out, HB.out⟩
end Go.Proofs.Ytnfefjlplipeiab
