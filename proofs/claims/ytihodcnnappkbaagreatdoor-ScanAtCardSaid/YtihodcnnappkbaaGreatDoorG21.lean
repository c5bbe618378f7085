/-
  The reference's way to read a number in base 128: plain. No condition. The walk of the reference's Get of leb. Condition: the bytes read; the place is none beyond their end. The walk of the reference's some: so many numbers, each below its limit. Condition: the slices read, the limits are small. The walk of the reference's text of a schema's bytes. Condition: the bytes read, the row has room for them. The reference's Zig, Zag, Of, Fix, flag, typeAt, CheckType: their walks. Condition of the types': the value stands for the type. The walk of the reference's float of a schema's bytes. Condition: the bytes read. The walk of the reference's bit of a schema's bytes. Condition: the bytes read. One step of right UTF-8, by the leading byte: plain. No condition. The walk of the reference's Utf. Condition: the text's length is Go's.
-/
import Derived.Test.YtihodcnnappkbaaGreatDoorG2
import Derived.Test.YtihodcnnappkbaaGreatDoorG6
import Derived.Test.YtihodcnnappkbaaGreatDoorG8
import Derived.Test.YtihodcnnappkbaaGreatDoorG7
import Derived.Test.YtihodcnnappkbaaGreatDoorG4
import Derived.Test.YtihodcnnappkbaaGreatDoorG3
import Derived.Test.YtihodcnnappkbaaGreatDoorG1
import Derived.IntWalk
namespace Go.Proofs.YtihodcnnappkbaaGreatDoor
def hk : List UInt8 → Nat → Nat
  | [], _ => 0
  | _ :: _, 0 => 0
  | c :: s, f + 1 => if 127 < c.toNat then hk s f + 1 else 0
def val : List UInt8 → Nat → Nat
  | [], _ => 0
  | c :: _, 0 => c.toNat % 128
  | c :: s, k + 1 => c.toNat % 128 + 128 * val s k
theorem hk_zero (s : List UInt8) : hk s 0 = 0 := by cases s <;> rfl
theorem hk_le (s : List UInt8) (f : Nat) : hk s f ≤ f ∧ hk s f ≤ s.length := by
  induction s generalizing f with
  | nil => simp [hk]
  | cons c s ih =>
    cases f with
    | zero => simp [hk]
    | succ f =>
      rw [hk]
      split
      · have := ih f
        simp only [List.length_cons]
        omega
      · simp
theorem hk_drop (s : List UInt8) (k f : Nat) (h : k ≤ hk s f) : hk s f = k + hk (s.drop k) (f - k) := by
  induction k generalizing s f with
  | zero => simp
  | succ k ih =>
    cases s with
    | nil => simp [hk] at h
    | cons c s =>
      cases f with
      | zero => simp [hk] at h
      | succ f =>
        rw [hk] at h ⊢
        split at h
        · rename_i hc
          rw [if_pos hc, ih s f (by omega)]
          simp only [List.drop_succ_cons]
          rw [show f + 1 - (k + 1) = f - k by omega]
          omega
        · omega
theorem lg_hk (s : List UInt8) : ∀ (j n : Nat), j ≤ 9 → lg s j n =
    if hk s (10 - j) = 10 - j then .error 5 else if hk s (10 - j) = s.length then .error 30
    else if (j + hk s (10 - j) = 9 ∧ 1 < (s.getD (hk s (10 - j)) 0).toNat) ∨ (0 < j + hk s (10 - j) ∧ (s.getD (hk s (10 - j)) 0).toNat = 0) then .error 5
    else .ok (n + val s (hk s (10 - j)) * 128 ^ j, j + hk s (10 - j) + 1) := by
  induction s with
  | nil =>
    intro j n hj
    rw [lg, if_neg (by simp [hk]; omega), if_pos (by simp [hk])]
  | cons c s ih =>
    intro j n hj
    rw [lg]
    have hf : 10 - j = (10 - (j + 1)) + 1 := by omega
    by_cases hc : 127 < c.toNat
    · have hk1 : hk (c :: s) (10 - j) = hk s (10 - (j + 1)) + 1 := by rw [hf, hk, if_pos hc]
      by_cases h9 : j = 9
      · subst h9
        rw [if_pos (by omega), if_pos]
        rw [hk1, hk_zero]
      · rw [if_neg (by omega), if_neg (by omega), ih (j + 1) _ (by omega), hk1]
        generalize hk s (10 - (j + 1)) = k
        have c1 : (k + 1 = 10 - j) ↔ (k = 10 - (j + 1)) := by omega
        have c2 : (k + 1 = (c :: s).length) ↔ (k = s.length) := by simp
        have c3 : n + c.toNat % 128 * 128 ^ j + val s k * 128 ^ (j + 1) = n + val (c :: s) (k + 1) * 128 ^ j := by
          rw [val, Nat.pow_succ, Nat.add_mul, Nat.add_assoc, Nat.mul_comm 128 (val s k), Nat.mul_assoc (val s k), Nat.mul_comm 128]
        simp only [c1, c2, List.getD_cons_succ, c3, show j + 1 + k = j + (k + 1) by omega]
    · have hk0 : hk (c :: s) (10 - j) = 0 := by rw [hf, hk, if_neg hc]
      rw [hk0]
      rw [if_neg (show ¬ 0 = 10 - j by omega), if_neg (by simp : ¬ 0 = (c :: s).length)]
      simp only [Nat.add_zero, List.getD_cons_zero]
      by_cases hb : (j = 9 ∧ 1 < c.toNat) ∨ (c.toNat = 0 ∧ 0 < j)
      · rw [if_pos hb, if_pos (by omega)]
      · rw [if_neg hb, if_pos (by omega), if_neg (by omega), val, Nat.mod_eq_of_lt (by omega)]
theorem lebGet_hk (l : List UInt8) (a : Nat) : lebGet l a =
    if hk (l.drop a) 10 = 10 then .error 5 else if hk (l.drop a) 10 = l.length - a then .error 30
    else if (hk (l.drop a) 10 = 9 ∧ 1 < ((l.drop a).getD (hk (l.drop a) 10) 0).toNat) ∨ (0 < hk (l.drop a) 10 ∧ ((l.drop a).getD (hk (l.drop a) 10) 0).toNat = 0) then .error 5
    else .ok (val (l.drop a) (hk (l.drop a) 10), a + (hk (l.drop a) 10 + 1)) := by
  unfold lebGet
  rw [lg_hk _ 0 0 (by omega)]
  simp only [Nat.sub_zero, List.length_drop, Nat.zero_add, Nat.pow_zero, Nat.mul_one]
  generalize hk (l.drop a) 10 = k
  by_cases h1 : k = 10
  · rw [if_pos h1, if_pos h1]
  rw [if_neg h1, if_neg h1]
  by_cases h2 : k = l.length - a
  · rw [if_pos h2, if_pos h2]
  rw [if_neg h2, if_neg h2]
  by_cases h3 : (k = 9 ∧ 1 < ((l.drop a).getD k 0).toNat) ∨ (0 < k ∧ ((l.drop a).getD k 0).toNat = 0)
  · rw [if_pos h3, if_pos h3]
  · rw [if_neg h3, if_neg h3]
theorem val_drop (s : List UInt8) (j k : Nat) (hj : j < s.length) (hk : j < k) : val (s.drop j) (k - j) = (s.getD j 0).toNat % 128 + 128 * val (s.drop (j + 1)) (k - (j + 1)) := by
  rw [List.drop_eq_getElem_cons hj, show k - j = (k - (j + 1)) + 1 by omega, val]
  simp [List.getD_eq_getElem?_getD, hj]
theorem val_last (s : List UInt8) (k : Nat) (h : k < s.length) : val (s.drop k) 0 = (s.getD k 0).toNat % 128 := by
  rw [List.drop_eq_getElem_cons h, val]
  simp [List.getD_eq_getElem?_getD, h]
end Go.Proofs.YtihodcnnappkbaaGreatDoor
namespace Go.Proofs.YtihodcnnappkbaaGreatDoor
open Go.RowKit
set_option linter.unusedVariables false
set_option linter.unusedSimpArgs false
theorem val_mono (s : List UInt8) (K : Nat) (hK : K < s.length) : ∀ j, j ≤ K → val (s.drop j) (K - j) ≤ val s K
  | 0, _ => by simp
  | j + 1, h => by
    have h1 := val_mono s K hK j (by omega)
    rw [val_drop s j K (by omega) (by omega)] at h1
    omega
def valFrom (s : List UInt8) (K j : Nat) : Nat := if K < j then 0 else val (s.drop j) (K - j)
theorem valFrom_step (s : List UInt8) (K j : Nat) (hK : K < s.length) (hj : j ≤ K) : valFrom s K (j + 1) * 128 + (s.getD j 0).toNat % 128 = valFrom s K j := by
  unfold valFrom
  rw [if_neg (show ¬ K < j by omega)]
  by_cases h : j = K
  · subst h
    rw [if_pos (by omega), Nat.sub_self, val_last s j hK]
    omega
  · rw [if_neg (by omega), val_drop s j K (by omega) (by omega)]
    omega
theorem valFrom_le (s : List UInt8) (K j : Nat) (hK : K < s.length) : valFrom s K j ≤ val s K := by
  unfold valFrom
  split
  · omega
  · exact val_mono s K hK j (by omega)
set_option maxRecDepth 20000 in
set_option maxHeartbeats 2000000 in
theorem ref3Get_calls (A : Option Addr) (c : Nat) (l : List UInt8) (a : Nat) (w : World) (hl : l.length ≤ 140737488355328) (hr : Reads w A l) (ha : a ≤ l.length) :
    Calls Tryz.prog 128 #[.slice A l.length c, .int .i64 (a : Int)] w fun e w' => e = .returned (getOut (lebGet l a)) ∧ w = w' := by
  by_cases hend : a = l.length
  · have e0 : lebGet l a = .error 30 := by unfold lebGet; rw [hend, List.drop_length, lg]
    rw [e0]
    clear e0 hr
    have hge : ¬ (a : Int) < (l.length : Int) := by omega
    have hle : (l.length : Int) ≤ (a : Int) := by omega
    generalize l.length = L at *
    go_enter Tryz.func128, Tryz.ntmps128
    go_wp2
    go_ret3
    exact ⟨rfl, rfl⟩
  have hlt : a < l.length := by omega
  obtain ⟨ad, rfl, _⟩ := hr.out a hlt
  obtain ⟨s, hs⟩ : ∃ s, s = l.drop a := ⟨_, rfl⟩
  have hsl : s.length = l.length - a := by rw [hs, List.length_drop]
  have hcell : ∀ j, j < s.length → w.cell? (ad.add (a + j)) = some (.int .u8 (((s.getD j 0).toNat : Nat) : Int)) := fun j hj => by
    obtain ⟨ad', e, hc⟩ := hr.out (a + j) (by omega)
    cases e
    have hal : a + j < l.length := by omega
    have e2 : s.getD j 0 = l[a + j]'hal := by simp [hs, List.getD_eq_getElem?_getD, hal]
    rw [hc, e2]
  obtain ⟨K, hK⟩ : ∃ K, K = hk s 10 := ⟨_, rfl⟩
  have hKle := hk_le s 10
  rw [← hK] at hKle
  obtain ⟨R, hR⟩ : ∃ R, R = lebGet l a := ⟨_, rfl⟩
  have hRn : ∀ n k, R = .ok (n, k) → n < 18446744073709551616 := fun n k h => lebGet_num (by rw [← hR, h])
  rw [← hR]
  rw [lebGet_hk, ← hs, ← hK, ← hsl] at hR
  have hhi : ∀ j, j < K → 127 < (s.getD j 0).toNat := fun j hj => by
    have h1 := hk_drop s j 10 (by omega)
    rw [← hK] at h1
    have h2 : 0 < hk (s.drop j) (10 - j) := by omega
    have hjs : j < s.length := by omega
    rw [List.drop_eq_getElem_cons hjs, show 10 - j = (10 - (j + 1)) + 1 by omega, hk] at h2
    split at h2
    · simpa [List.getD_eq_getElem?_getD, hjs] using by assumption
    · omega
  have hlo : K < 10 → K < s.length → ¬ 127 < (s.getD K 0).toNat := fun h10 hKs => by
    have h1 := hk_drop s K 10 (by omega)
    rw [← hK] at h1
    have h2 : hk (s.drop K) (10 - K) = 0 := by omega
    rw [List.drop_eq_getElem_cons hKs, show 10 - K = (10 - (K + 1)) + 1 by omega, hk] at h2
    split at h2
    · omega
    · rename_i h3
      simpa [List.getD_eq_getElem?_getD, hKs] using h3
  obtain ⟨S, hS⟩ : ∃ S, S = s.length := ⟨_, rfl⟩
  have hSL : l.length = a + S := by omega
  rw [hSL] at hl hlt ⊢
  rw [← hS] at hR hKle
  have HCELL := Lib.hid hcell
  have HHI := Lib.hid hhi
  have HLO := Lib.hid hlo
  have HS := Lib.hid hS
  have HR := Lib.hid hR
  have HRN := Lib.hid hRn
  clear hcell hhi hlo hS hR hRn hSL hsl hr hend hs hK
  obtain ⟨L, hL⟩ : ∃ L, L = a + S := ⟨_, rfl⟩
  rw [← hL] at hl hlt ⊢
  have hLS : IntKind.i64.wrap ((L : Int) - (a : Int)) = (S : Int) := by rw [IntWalk.i64_in _ (by omega)]; omega
  have haL : ¬ (L : Int) ≤ (a : Int) := by omega
  have HL := Lib.hid hL
  clear hL ha
  go_enter Tryz.func128, Tryz.ntmps128
  go_wp2_with fail
  go_loopw [7] (fun i wr => ∃ k : Nat, k ≤ K ∧ i = .int .i64 (k : Int) ∧ wr = w) (fun i _ => K - (intOf i).toNat)
  case atStart => exact ⟨0, by omega, rfl, rfl⟩
  case round =>
    obtain ⟨k, hk, rfl, rfl⟩ := hrel
    by_cases hkK : k < K
    · have h127 := HHI.out k hkK
      have hck := HCELL.out k (by rw [← HS.out]; omega)
      generalize (s.getD k 0).toNat = x at hck h127
      have hx : (127 : Int) < (x : Int) := by omega
      obtain ⟨p, hp⟩ : ∃ p, p = a + k := ⟨_, rfl⟩
      rw [← hp] at hck
      have hpL : p < L := by have := HL.out; omega
      have hpw : IntKind.i64.wrap ((a : Int) + (k : Int)) = (p : Int) := by rw [IntWalk.i64_in _ (by omega)]; omega
      have hk10 : k < 10 := by omega
      have hkS : k < S := by omega
      clear hp
      go_wp2
      exact ⟨⟨k + 1, by omega, by go_num, trivial⟩, by simp [intOf]; omega⟩
    · obtain rfl : k = K := by omega
      by_cases h10 : k = 10
      · have HQ := Lib.hid (HR.out.trans (if_pos h10))
        clear HR
        subst h10
        go_wp2
        go_ret3
        exact ⟨by rw [HQ.out]; rfl, rfl⟩
      have HR1 := HR.out.trans (if_neg h10)
      clear HR
      have hk10 : k < 10 := by omega
      by_cases hkS : k = S
      · have HQ := Lib.hid (HR1.trans (if_pos hkS))
        clear HR1
        subst hkS
        go_wp2
        go_ret3
        exact ⟨by rw [HQ.out]; rfl, rfl⟩
      have HR2 := HR1.trans (if_neg hkS)
      clear HR1
      have hkS' : k < S := by omega
      have hx := HLO.out hk10 (by rw [← HS.out]; omega)
      have hck := HCELL.out k (by rw [← HS.out]; omega)
      have hxx : ∃ x, x = (s.getD k 0).toNat := ⟨_, rfl⟩
      obtain ⟨x, hxe⟩ := hxx
      rw [← hxe] at hx hck HR2
      have hxi : ¬ (127 : Int) < (x : Int) := by omega
      obtain ⟨p, hp⟩ : ∃ p, p = a + k := ⟨_, rfl⟩
      rw [← hp] at hck
      have hpL : p < L := by have := HL.out; omega
      have hpw : IntKind.i64.wrap ((a : Int) + (k : Int)) = (p : Int) := by rw [IntWalk.i64_in _ (by omega)]; omega
      have HXE := Lib.hid hxe
      have HP := Lib.hid hp
      clear hxe hp
      by_cases h3 : (k = 9 ∧ 1 < x) ∨ (0 < k ∧ x = 0)
      · have HQ := Lib.hid (HR2.trans (if_pos h3))
        clear HR2
        rcases h3 with ⟨h9, h1⟩ | ⟨h0, h1⟩
        · have hp9 : p = a + 9 := by have := HP.out; omega
          subst h9
          have hpw9 : IntKind.i64.wrap ((a : Int) + 9) = (p : Int) := hpw
          have hx1 : (1 : Int) < (x : Int) := by omega
          clear hp9
          go_wp2
          go_ret3
          exact ⟨by rw [HQ.out]; rfl, rfl⟩
        · subst h1
          have hk0 : (0 : Int) < (k : Int) := by omega
          by_cases h9 : k = 9
          · subst h9
            have hpw9 : IntKind.i64.wrap ((a : Int) + 9) = (p : Int) := hpw
            go_wp2
            go_ret3
            exact ⟨by rw [HQ.out]; rfl, rfl⟩
          · have hk9 : ¬ (k : Int) = 9 := by omega
            go_wp2
            go_ret3
            exact ⟨by rw [HQ.out]; rfl, rfl⟩
      · have HQ := Lib.hid (HR2.trans (if_neg h3))
        clear HR2
        have hKs : k < s.length := by rw [← HS.out]; omega
        have h19 : ¬ (k = 9 ∧ 1 < x) := fun h => h3 (Or.inl h)
        have h00 : ¬ (0 < k ∧ x = 0) := fun h => h3 (Or.inr h)
        have hcs : (k = 9 ∧ ¬ 1 < x ∧ ¬ x = 0) ∨ (¬ k = 9 ∧ 0 < k ∧ ¬ x = 0) ∨ k = 0 := by omega
        have hvl : ∀ j, valFrom s k j < 18446744073709551616 := fun j => Nat.lt_of_le_of_lt (valFrom_le s k j hKs) (HRN.out _ _ HQ.out)
        have HVL := Lib.hid hvl
        have HKS := Lib.hid hKs
        have hpe : p = a + k := HP.out
        have hpw1 : IntKind.i64.wrap ((p : Int) + 1) = ((p + 1 : Nat) : Int) := by rw [IntWalk.i64_in _ (by omega)]; omega
        have HPE := Lib.hid hpe
        clear hvl hKs h3 h19 h00 hpe HP
        rcases hcs with ⟨h9, h1, h0⟩ | ⟨h9, h0, h1⟩ | h0
        · have hxi1 : ¬ (1 : Int) < (x : Int) := by omega
          have hxi0 : ¬ (x : Int) = 0 := by omega
          subst h9
          have hpw9 : IntKind.i64.wrap ((a : Int) + 9) = (p : Int) := hpw
          clear h1 h0
          go_wp2_with fail
          go_loopw [8, 9] (fun n i wr' => ∃ j : Nat, j ≤ 9 + 1 ∧ n = .int .u64 ((valFrom s 9 j : Nat) : Int) ∧ i = .int .i64 ((j : Int) - 1) ∧ wr' = wr) (fun n i _ => (intOf i + 1).toNat)
          case atStart => exact ⟨9 + 1, by omega, by unfold valFrom; rw [if_pos (by omega)]; rfl, rfl, rfl⟩
          case round =>
            obtain ⟨j, hj, rfl, rfl, rfl⟩ := hrel
            obtain ⟨v, hv⟩ : ∃ v, v = valFrom s 9 j := ⟨_, rfl⟩
            rw [← hv]
            by_cases hj0 : j = 0
            · have HV := Lib.hid hv
              clear hv
              subst hj0
              have hv0 : v = val s 9 := by rw [HV.out]; unfold valFrom; rw [if_neg (by omega)]; rfl
              have HV0 := Lib.hid hv0
              clear hv0
              go_wp2
              go_ret3
              exact ⟨by rw [HQ.out, ← HV0.out, show a + (9 + 1) = p + 1 by have := HPE.out; omega]; rfl, rfl⟩
            · obtain ⟨m, rfl⟩ : ∃ m, j = m + 1 := ⟨j - 1, by omega⟩
              rw [show ((m + 1 : Nat) : Int) - 1 = (m : Int) by omega]
              have hst := valFrom_step s 9 m HKS.out (by omega)
              rw [← hv] at hst
              have hmS : m < s.length := by have := HKS.out; omega
              have hcm := HCELL.out m hmS
              obtain ⟨y, hy⟩ : ∃ y, y = (s.getD m 0).toNat := ⟨_, rfl⟩
              rw [← hy] at hcm hst
              have hyl : y < 256 := by rw [hy]; exact (s.getD m 0).toNat_lt
              have hvn := HVL.out m
              obtain ⟨q, hq⟩ : ∃ q, q = a + m := ⟨_, rfl⟩
              rw [← hq] at hcm
              have hqL : q < L := by have := HL.out; have := HS.out; omega
              have hqw : IntKind.i64.wrap ((a : Int) + (m : Int)) = (q : Int) := by rw [IntWalk.i64_in _ (by omega)]; omega
              have HST := Lib.hid hst
              have HVN := Lib.hid hvn
              clear hst hvn hv hy hq hmS
              go_wp2
              have hw1 : IntKind.u64.wrap ((v : Int) * 128) = (v : Int) * 128 := IntWalk.u64_in _ (by have := HST.out; have := HVN.out; omega)
              have hw2 : IntKind.u64.wrap ((v : Int) * 128 + (y : Int) % 128) = ((v * 128 + y % 128 : Nat) : Int) := by rw [IntWalk.u64_in _ (by have := HST.out; have := HVN.out; omega)]; omega
              exact ⟨⟨m, by omega, by rw [hw1, hw2, HST.out], rfl, trivial⟩, by simp [intOf]⟩
        · have hki : ¬ (k : Int) = 9 := by omega
          have hk0 : (0 : Int) < (k : Int) := by omega
          have hxi0 : ¬ (x : Int) = 0 := by omega
          clear h1
          go_wp2_with fail
          go_loopw [8, 9] (fun n i wr' => ∃ j : Nat, j ≤ k + 1 ∧ n = .int .u64 ((valFrom s k j : Nat) : Int) ∧ i = .int .i64 ((j : Int) - 1) ∧ wr' = wr) (fun n i _ => (intOf i + 1).toNat)
          case atStart => exact ⟨k + 1, by omega, by unfold valFrom; rw [if_pos (by omega)]; rfl, by congr 1; omega, rfl⟩
          case round =>
            obtain ⟨j, hj, rfl, rfl, rfl⟩ := hrel
            obtain ⟨v, hv⟩ : ∃ v, v = valFrom s k j := ⟨_, rfl⟩
            rw [← hv]
            by_cases hj0 : j = 0
            · have HV := Lib.hid hv
              clear hv
              subst hj0
              have hv0 : v = val s k := by rw [HV.out]; unfold valFrom; rw [if_neg (by omega)]; rfl
              have HV0 := Lib.hid hv0
              clear hv0
              go_wp2
              go_ret3
              exact ⟨by rw [HQ.out, ← HV0.out, show a + (k + 1) = p + 1 by have := HPE.out; omega]; rfl, rfl⟩
            · obtain ⟨m, rfl⟩ : ∃ m, j = m + 1 := ⟨j - 1, by omega⟩
              rw [show ((m + 1 : Nat) : Int) - 1 = (m : Int) by omega]
              have hst := valFrom_step s k m HKS.out (by omega)
              rw [← hv] at hst
              have hmS : m < s.length := by have := HKS.out; omega
              have hcm := HCELL.out m hmS
              obtain ⟨y, hy⟩ : ∃ y, y = (s.getD m 0).toNat := ⟨_, rfl⟩
              rw [← hy] at hcm hst
              have hyl : y < 256 := by rw [hy]; exact (s.getD m 0).toNat_lt
              have hvn := HVL.out m
              obtain ⟨q, hq⟩ : ∃ q, q = a + m := ⟨_, rfl⟩
              rw [← hq] at hcm
              have hqL : q < L := by have := HL.out; have := HS.out; omega
              have hqw : IntKind.i64.wrap ((a : Int) + (m : Int)) = (q : Int) := by rw [IntWalk.i64_in _ (by omega)]; omega
              have HST := Lib.hid hst
              have HVN := Lib.hid hvn
              clear hst hvn hv hy hq hmS
              go_wp2
              have hw1 : IntKind.u64.wrap ((v : Int) * 128) = (v : Int) * 128 := IntWalk.u64_in _ (by have := HST.out; have := HVN.out; omega)
              have hw2 : IntKind.u64.wrap ((v : Int) * 128 + (y : Int) % 128) = ((v * 128 + y % 128 : Nat) : Int) := by rw [IntWalk.u64_in _ (by have := HST.out; have := HVN.out; omega)]; omega
              exact ⟨⟨m, by omega, by rw [hw1, hw2, HST.out], rfl, trivial⟩, by simp [intOf]⟩
        · have hki : ¬ (k : Int) = 9 := by omega
          have hk0 : ¬ (0 : Int) < (k : Int) := by omega
          have H0 := Lib.hid h0
          clear h0
          go_wp2_with fail
          go_loopw [8, 9] (fun n i wr' => ∃ j : Nat, j ≤ k + 1 ∧ n = .int .u64 ((valFrom s k j : Nat) : Int) ∧ i = .int .i64 ((j : Int) - 1) ∧ wr' = wr) (fun n i _ => (intOf i + 1).toNat)
          case atStart => exact ⟨k + 1, by omega, by unfold valFrom; rw [if_pos (by omega)]; rfl, by congr 1; omega, rfl⟩
          case round =>
            obtain ⟨j, hj, rfl, rfl, rfl⟩ := hrel
            obtain ⟨v, hv⟩ : ∃ v, v = valFrom s k j := ⟨_, rfl⟩
            rw [← hv]
            by_cases hj0 : j = 0
            · have HV := Lib.hid hv
              clear hv
              subst hj0
              have hv0 : v = val s k := by rw [HV.out]; unfold valFrom; rw [if_neg (by omega)]; rfl
              have HV0 := Lib.hid hv0
              clear hv0
              go_wp2
              go_ret3
              exact ⟨by rw [HQ.out, ← HV0.out, show a + (k + 1) = p + 1 by have := HPE.out; omega]; rfl, rfl⟩
            · obtain ⟨m, rfl⟩ : ∃ m, j = m + 1 := ⟨j - 1, by omega⟩
              rw [show ((m + 1 : Nat) : Int) - 1 = (m : Int) by omega]
              have hst := valFrom_step s k m HKS.out (by omega)
              rw [← hv] at hst
              have hmS : m < s.length := by have := HKS.out; omega
              have hcm := HCELL.out m hmS
              obtain ⟨y, hy⟩ : ∃ y, y = (s.getD m 0).toNat := ⟨_, rfl⟩
              rw [← hy] at hcm hst
              have hyl : y < 256 := by rw [hy]; exact (s.getD m 0).toNat_lt
              have hvn := HVL.out m
              obtain ⟨q, hq⟩ : ∃ q, q = a + m := ⟨_, rfl⟩
              rw [← hq] at hcm
              have hqL : q < L := by have := HL.out; have := HS.out; omega
              have hqw : IntKind.i64.wrap ((a : Int) + (m : Int)) = (q : Int) := by rw [IntWalk.i64_in _ (by omega)]; omega
              have HST := Lib.hid hst
              have HVN := Lib.hid hvn
              clear hst hvn hv hy hq hmS
              go_wp2
              have hw1 : IntKind.u64.wrap ((v : Int) * 128) = (v : Int) * 128 := IntWalk.u64_in _ (by have := HST.out; have := HVN.out; omega)
              have hw2 : IntKind.u64.wrap ((v : Int) * 128 + (y : Int) % 128) = ((v * 128 + y % 128 : Nat) : Int) := by rw [IntWalk.u64_in _ (by have := HST.out; have := HVN.out; omega)]; omega
              exact ⟨⟨m, by omega, by rw [hw1, hw2, HST.out], rfl, trivial⟩, by simp [intOf]⟩
end Go.Proofs.YtihodcnnappkbaaGreatDoor
namespace Go.Proofs.YtihodcnnappkbaaGreatDoor
open Go.RowKit Go.BigFrame
set_option linter.unusedVariables false
set_option linter.unusedSimpArgs false
def someGo (l : List UInt8) : List Nat → Nat → List Nat → Option (List Nat × Nat)
  | [], a, acc => some (acc, a)
  | m :: ms, a, acc =>
    match lebGet l a with
    | .error _ => none
    | .ok (n, k) => if m ≤ n then none else someGo l ms k (acc ++ [n])
theorem someGo_cons (l : List UInt8) (m : Nat) (ms : List Nat) (a : Nat) (acc : List Nat) :
    someGo l (m :: ms) a acc = if (rnum l m (a, false)).2.2 = true then none else someGo l ms (rnum l m (a, false)).2.1 (acc ++ [(rnum l m (a, false)).1.toNat]) := by
  rw [someGo]
  unfold rnum
  cases lebGet l a with
  | error e => simp
  | ok r =>
    obtain ⟨n, k⟩ := r
    by_cases h : m ≤ n
    · simp [h]
    · simp [h]
def SomePost (w : World) (r : Option (List Nat × Nat)) (e : Ending) (w' : World) : Prop :=
  match r with
  | none => e = .returned (.tuple #[.slice none 0 0, .int .i64 0, .bool false]) ∧ Keeps w w'
  | some (vs, k) => ∃ A c, e = .returned (.tuple #[.slice A vs.length c, .int .i64 (k : Int), .bool true]) ∧ RowAt w' A (n64s vs) ∧ vs.length ≤ c ∧ Keeps w w'
theorem info_i64b : (Tryz.prog.info? 2).map (fun i => (i.zero, i.size, i.bytes)) = some (some (.int .i64 0), 1, 8) := by kernel_rfl
theorem n64s_one (l : List Nat) : ∀ u ∈ n64s l, u.oneCell' = true := by
  intro u hu
  simp only [n64s, List.mem_map] at hu
  obtain ⟨q, _, rfl⟩ := hu
  rfl
set_option maxRecDepth 20000 in
set_option maxHeartbeats 2000000 in
theorem refSome_calls (A : Option Addr) (c : Nat) (l : List UInt8) (a : Nat) (B : Option Addr) (d : Nat) (ms : List Nat) (w : World) (hl : l.length ≤ 140737488355328) (hr : Reads w A l) (ha : a ≤ l.length) (hm : ms.length ≤ 100000) (hms : ∀ m ∈ ms, m ≤ 4611686018427387904) (hrb : RowAt w B (n64s ms)) :
    Calls Tryz.prog 96 #[.slice A l.length c, .int .i64 (a : Int), .slice B ms.length d] w (SomePost w (someGo l ms a [])) := by
  have hg := fun (w2 : World) (a : Nat) (hk : Keeps w w2) (h : a ≤ l.length) => ref3Get_calls A c l a w2 hl (hr.below hk.below) h
  obtain ⟨R, hR⟩ : ∃ R, R = someGo l ms a [] := ⟨_, rfl⟩
  rw [← hR]
  have HG := Lib.hid hg
  have HR := Lib.hid hR
  have HMS := Lib.hid hms
  have HRB := Lib.hid hrb
  clear hg hR hms hrb hr
  generalize hLL : l.length = L at *
  have HL := Lib.hid hLL
  clear hLL
  generalize hNN : ms.length = N at *
  have HN := Lib.hid hNN
  clear hNN
  go_enter Tryz.func96, Tryz.ntmps96
  go_wp2_with fail
  go_loopw [1, 9, 10] (fun at_ b i wr => ∃ (j a : Nat) (acc : List Nat) (A' : Option Addr) (M c' : Nat), j ≤ N ∧ i = .int .i64 (j : Int) ∧ at_ = .int .i64 (a : Int) ∧ b = .slice A' M c' ∧ a ≤ L ∧ acc.length = j ∧ R = someGo l (ms.drop j) a acc ∧ wr.ownsRow w.heap.size 2 1 (.slice A' M c') j (n64s acc) ∧ Keeps w wr) (fun _ _ i _ => N - (intOf i).toNat)
  case atStart => exact ⟨0, a, [], none, 0, 0, Nat.zero_le _, rfl, rfl, rfl, ha, rfl, HR.out, World.ownsRow_nil _ _ _ _, Keeps.refl _⟩
  case round =>
    clear HR ha
    obtain ⟨j, a, acc, A', M, c', hj, rfl, rfl, rfl, ha, hacc, hres, hown, hk⟩ := hrel
    have HO := Lib.hid hown
    have HK := Lib.hid hk
    have HACC := Lib.hid hacc
    clear hown hacc
    by_cases hlt : j < N
    · have hlt1 : j < ms.length := by rw [HN.out]; exact hlt
      obtain ⟨ad, rfl, hcell⟩ := row_n64 (HRB.out.below hk.below) j hlt1
      have hm2 := HMS.out _ (List.getElem_mem hlt1)
      rw [List.drop_eq_getElem_cons hlt1, someGo] at hres
      generalize ms[j]'hlt1 = m at *
      have hmw : IntKind.u64.wrap (m : Int) = (m : Int) := IntWalk.u64_in _ (by omega)
      have hc := HG.out wr a hk ha
      clear hk hlt1
      cases hget : lebGet l a with
      | error er =>
        rw [hget] at hc hres
        have HC := Lib.hid hc
        have HRES := Lib.hid hres
        have qe : (er != 0) = true := by simpa using lebGet_err hget
        clear hc hres hget
        go_wp2_with fail
        refine HC.out.mono ?_
        rintro e w1 ⟨rfl, rfl⟩
        simp only [getOut]
        go_wp2
        go_ret3
        rw [HRES.out]
        exact ⟨rfl, HK.out⟩
      | ok r =>
        obtain ⟨n, k⟩ := r
        rw [hget] at hc hres
        simp only at hres
        have hn64 := lebGet_num hget
        have hkL : k ≤ L := by rw [← HL.out]; exact lebGet_le (by rw [HL.out]; exact ha) hget
        have HC := Lib.hid hc
        clear hc hget
        by_cases hmn : m ≤ n
        · rw [if_pos hmn] at hres
          have HRES := Lib.hid hres
          have qm : decide ((m : Int) ≤ (n : Int)) = true := by rw [decide_eq_true_eq]; omega
          have qm2 : decide (m ≤ n) = true := by rw [decide_eq_true_eq]; omega
          clear hres
          go_wp2_with fail
          refine HC.out.mono ?_
          rintro e w1 ⟨rfl, rfl⟩
          simp only [getOut]
          go_wp2
          go_ret3
          rw [HRES.out]
          exact ⟨rfl, HK.out⟩
        · rw [if_neg hmn] at hres
          have HRES := Lib.hid hres
          have qm : decide ((m : Int) ≤ (n : Int)) = false := by rw [decide_eq_false_iff_not]; omega
          have qm2 : decide (m ≤ n) = false := by rw [decide_eq_false_iff_not]; omega
          have hnw : IntKind.i64.wrap (n : Int) = (n : Int) := IntWalk.i64_in _ (by omega)
          obtain ⟨W2, hW2⟩ : ∃ W2, W2 = wr.alloc (.cells #[.int .i64 (n : Int)] 2) := ⟨_, rfl⟩
          have hk2 : Keeps wr W2 := by rw [hW2]; exact (Keeps.refl wr).alloc _
          have hb2 : W2.heap[wr.heap.size]? = some (.cells #[.int .i64 (n : Int)] 2) := by rw [hW2]; exact obj_new wr _
          have HROW := Lib.hid (n64_one hb2)
          have HO2 := Lib.hid ((Touch.of_below (F := fun _ => False) hk2.below fun k hk h => absurd hk (by omega)).own HO.out fun _ _ h => h)
          have HK2 := Lib.hid (HK.out.trans hk2)
          have HW2 := Lib.hid hW2
          clear hres hmn hk2 hb2 hW2
          go_wp2_with fail
          refine HC.out.mono ?_
          rintro e w1 ⟨rfl, rfl⟩
          simp only [getOut]
          go_wp2_with (at_builtin; rw [← HW2.out]; refine wpList_append_row (w0 := w) w.heap.size rfl _ _ 92 2 (.int .i64 0) 1 8 rfl Tryz.underlying92 info_i64b rfl (by omega) (.slice A' M c') j (n64s acc) rfl HO2.out (some ⟨wr.heap.size, 0, none⟩) 1 1 (n64s [n]) rfl rfl HROW.out (n64s_one _) (by simp only [maxLen]; omega) (by omega) HK2.out.size HK2.out ?_)
          intro v3 w3 hown3 hb3 _ _
          rw [← show n64s (acc ++ [n]) = n64s acc ++ n64s [n] by simp [n64s]] at hown3
          obtain ⟨A3, M3, c3, rfl⟩ : ∃ A3 M3 c3, v3 = .slice A3 M3 c3 := by
            rcases hown3.2 with ⟨h, _⟩ | ⟨g, cap, cur, h, _⟩
            · exact ⟨_, _, _, h⟩
            · exact ⟨_, _, _, h⟩
          have HO3 := Lib.hid hown3
          have HK3 : Hid (Keeps w w3) := Lib.hid hb3
          clear hown3 hb3
          go_wp2
          exact ⟨⟨j + 1, k, acc ++ [n], A3, M3, c3, by omega, by go_num, rfl, rfl, hkL, by rw [List.length_append, HACC.out]; rfl, HRES.out, HO3.out, HK3.out⟩, by simp [intOf]; omega⟩
    · obtain rfl : j = N := by omega
      rw [List.drop_eq_nil_of_le (by rw [HN.out]; omega), someGo] at hres
      have HRES := Lib.hid hres
      clear hres hk
      have hrow := RowAt.own HO.out
      have hMc : M = j ∧ M ≤ c' := by
        rcases HO.out.2 with ⟨h, h0⟩ | ⟨g, cap, cur, h, _, _, hc, _⟩
        · injection h with h1 h2 h3
          exact ⟨by omega, by omega⟩
        · injection h with h1 h2 h3
          exact ⟨by omega, by omega⟩
      obtain ⟨rfl, hMc⟩ := hMc
      have HROW := Lib.hid hrow
      clear hrow
      go_wp2
      go_ret3
      rw [HRES.out]
      exact ⟨A', c', by rw [HACC.out]; rfl, HROW.out, by rw [HACC.out]; exact hMc, HK.out⟩
def textOut : Except Int (List UInt8 × Nat) → Value
  | .error e => .tuple #[.string ⟨#[]⟩, .int .i64 0, .int .i64 e]
  | .ok (t, k) => .tuple #[.string (str t), .int .i64 (k : Int), .int .i64 0]
set_option maxRecDepth 10000 in
set_option maxHeartbeats 1000000 in
theorem refText_calls (A : Option Addr) (c : Nat) (l : List UInt8) (a most : Nat) (long : Int) (w : World) (hl : l.length ≤ 140737488355328) (hcap : l.length ≤ c) (hr : Reads w A l) (ha : a ≤ l.length) (hm : most ≤ 1024) :
    Calls Tryz.prog 157 #[.slice A l.length c, .int .i64 (a : Int), .int .i64 (most : Int), .int .i64 long] w fun e w' => e = .returned (textOut (rText most long l a)) ∧ Keeps w w' := by
  have hc := ref3Get_calls A c l a w hl hr ha
  have hmw : IntKind.u64.wrap (most : Int) = (most : Int) := IntWalk.u64_in _ (by omega)
  cases hg : lebGet l a with
  | error e1 =>
    have he := lebGet_err hg
    have e0 : rText most long l a = .error e1 := by unfold rText; rw [hg]
    rw [e0]
    rw [hg] at hc
    have q : (e1 != 0) = true := by simpa using he
    have HC := Lib.hid hc
    clear hc e0 hg he hr
    generalize l.length = L at *
    go_enter Tryz.func157, Tryz.ntmps157
    go_wp2_with fail
    refine HC.out.mono ?_
    rintro e w1 ⟨rfl, rfl⟩
    simp only [getOut]
    go_wp2
    go_ret3
    exact ⟨rfl, Keeps.refl _⟩
  | ok r =>
    obtain ⟨n, k1⟩ := r
    have hn64 := lebGet_num hg
    rw [hg] at hc
    have HC := Lib.hid hc
    by_cases h1 : n ≤ most
    · by_cases h2 : n ≤ l.length - k1
      · have e0 : rText most long l a = .ok ((l.drop k1).take n, k1 + n) := by unfold rText; rw [hg]; simp only; rw [if_pos h1, if_pos h2]
        rw [e0]
        have hk1 := lebGet_le ha hg
        have q1 : ¬ (most : Int) < (n : Int) := by omega
        have e1 : IntKind.i64.wrap (n : Int) = (n : Int) := IntWalk.i64_in _ (by omega)
        have e2 : IntKind.i64.wrap ((l.length : Int) - (k1 : Int)) = ((l.length - k1 : Nat) : Int) := by rw [IntWalk.i64_in _ (by omega)]; omega
        have q2 : ¬ ((l.length - k1 : Nat) : Int) < (n : Int) := by omega
        have e3 : IntKind.i64.wrap ((k1 : Int) + (n : Int)) = ((k1 + n : Nat) : Int) := by rw [IntWalk.i64_in _ (by omega)]; omega
        obtain ⟨Z, hif⟩ : ∃ Z, (if c = k1 then A else Option.map (fun x => x.add k1) A) = Z := ⟨_, rfl⟩
        have hz : Reads w Z ((l.drop k1).take n) := by
          refine Reads.take (hr.drop_any k1 Z fun hlt ad e => ?_) n
          rw [← hif, if_neg (by omega), e]; rfl
        have hconv : (convert 31 9 (.slice Z n (c - k1))).run Tryz.prog w = .ok (.string (str ((l.drop k1).take n))) w := by
          have := hz.conv (P := Tryz.prog) 31 9 5 Tryz.underlying31 Tryz.underlying5 Tryz.underlying9 (c - k1)
          rw [show ((l.drop k1).take n).length = n by rw [List.length_take, List.length_drop]; omega] at this
          exact this
        generalize hTT : str ((l.drop k1).take n) = T at hconv
        have HCV := Lib.hid hconv
        clear hconv
        have HTT := Lib.hid hTT
        have hkn : k1 + n ≤ l.length := by omega
        clear hc e0 hg hr hz hTT
        generalize l.length = L at *
        go_enter Tryz.func157, Tryz.ntmps157
        go_wp2_with fail
        refine HC.out.mono ?_
        rintro e w1 ⟨rfl, rfl⟩
        simp only [getOut]
        go_wp2_with fail
        rw [HCV.out]
        simp only [Result.andThen]
        rw [Oper.upon_value]
        go_wp2
        go_ret3
        exact ⟨by rw [← HTT.out]; rfl, Keeps.refl _⟩
      · have e0 : rText most long l a = .error 30 := by unfold rText; rw [hg]; simp only; rw [if_pos h1, if_neg h2]
        rw [e0]
        have hk1 := lebGet_le ha hg
        have q1 : ¬ (most : Int) < (n : Int) := by omega
        have e1 : IntKind.i64.wrap (n : Int) = (n : Int) := IntWalk.i64_in _ (by omega)
        have e2 : IntKind.i64.wrap ((l.length : Int) - (k1 : Int)) = ((l.length - k1 : Nat) : Int) := by rw [IntWalk.i64_in _ (by omega)]; omega
        have q2 : ((l.length - k1 : Nat) : Int) < (n : Int) := by omega
        clear hc e0 hg hr h1 h2
        generalize l.length = L at *
        go_enter Tryz.func157, Tryz.ntmps157
        go_wp2_with fail
        refine HC.out.mono ?_
        rintro e w1 ⟨rfl, rfl⟩
        simp only [getOut]
        go_wp2
        go_ret3
        exact ⟨rfl, Keeps.refl _⟩
    · have e0 : rText most long l a = .error long := by unfold rText; rw [hg]; simp only; rw [if_neg h1]
      rw [e0]
      have q : (most : Int) < (n : Int) := by omega
      clear hc e0 hg h1 hr
      generalize l.length = L at *
      go_enter Tryz.func157, Tryz.ntmps157
      go_wp2_with fail
      refine HC.out.mono ?_
      rintro e w1 ⟨rfl, rfl⟩
      simp only [getOut]
      go_wp2
      go_ret3
      exact ⟨rfl, Keeps.refl _⟩
set_option maxRecDepth 10000 in
set_option maxHeartbeats 400000 in
theorem ref3Zag_calls (u : Nat) (hu : u < 18446744073709551616) (w : World) : Calls Tryz.prog 183 #[.int .u64 (u : Int)] w fun e w' => e = .returned (.int .i64 (zag u)) ∧ w = w' := by
  have hd : (u : Int) / 2 = ((u / 2 : Nat) : Int) := by omega
  have hq : u / 2 < 9223372036854775808 := by omega
  have hm : (u : Int) % 2 = ((u % 2 : Nat) : Int) := by omega
  rcases Nat.mod_two_eq_zero_or_one u with h | h
  · have hz : zag u = ((u / 2 : Nat) : Int) := by unfold zag; rw [if_pos h]
    rw [h] at hm
    have HZ := Lib.hid hz
    clear hz h
    generalize u / 2 = q at hd hq HZ
    have e1 : IntKind.i64.wrap (q : Int) = (q : Int) := IntWalk.i64_in _ (by omega)
    go_enter Tryz.func183, Tryz.ntmps183
    go_wp2
    go_ret
    exact ⟨by rw [HZ.out]; rfl, rfl⟩
  · have hz : zag u = -((u / 2 : Nat) : Int) - 1 := by unfold zag; rw [if_neg (by omega)]
    rw [h] at hm
    have HZ := Lib.hid hz
    clear hz h
    generalize u / 2 = q at hd hq HZ
    have e1 : IntKind.i64.wrap (q : Int) = (q : Int) := IntWalk.i64_in _ (by omega)
    have e2 : IntKind.i64.wrap (-(q : Int)) = -(q : Int) := IntWalk.i64_in _ (by omega)
    have e3 : IntKind.i64.wrap (-(q : Int) - 1) = -(q : Int) - 1 := IntWalk.i64_in _ (by omega)
    go_enter Tryz.func183, Tryz.ntmps183
    go_wp2
    go_ret
    exact ⟨by rw [HZ.out]; rfl, rfl⟩
set_option maxRecDepth 100000 in
set_option maxHeartbeats 400000 in
theorem refFix_calls (x : Nat) (w : World) : Calls Tryz.prog 188 #[.float .f64 x] w fun e w' => e = .returned (.float .f64 (fbits x)) ∧ w = w' := by
  cases hx : (FloatKind.f64.format.order x x == some .eq) with
  | true =>
    have hn : (FloatKind.f64.format.order x x != some .eq) = false := by rw [bne, hx]; rfl
    have he : fbits x = x := by unfold fbits; rw [hx]; rfl
    have HE := Lib.hid he
    clear hx he
    go_enter Tryz.func188, Tryz.ntmps188
    go_wp2
    go_ret
    exact ⟨by rw [HE.out]; rfl, rfl⟩
  | false =>
    have hn : (FloatKind.f64.format.order x x != some .eq) = true := by rw [bne, hx]; rfl
    have he : fbits x = 9221120237041090560 := by unfold fbits; rw [hx]; rfl
    have HE := Lib.hid he
    clear hx he
    go_enter Tryz.func188, Tryz.ntmps188
    go_wp2
    rw [run_callFunc_extern Tryz.func185 (by kernel_rfl) (by kernel_rfl) (by kernel_rfl) (e := Extern.MathFloatBits.float64frombits) (by kernel_rfl), run_from_nan]
    simp only [Result.andThen]
    rw [Oper.upon_value]
    go_wp2
    go_ret
    exact ⟨by rw [HE.out]; rfl, rfl⟩
set_option maxRecDepth 100000 in
set_option maxHeartbeats 400000 in
theorem refOf_calls (x : Nat) (w : World) : Calls Tryz.prog 187 #[.int .u64 (x : Int)] w fun e w' => e = .returned (.float .f64 (fbits x)) ∧ w = w' := by
  have HC := Lib.hid (refFix_calls x)
  go_enter Tryz.func187, Tryz.ntmps187
  go_wp2
  rw [run_callFunc_extern Tryz.func185 (by kernel_rfl) (by kernel_rfl) (by kernel_rfl) (e := Extern.MathFloatBits.float64frombits) (by kernel_rfl), run_from_any]
  simp only [Result.andThen]
  rw [Oper.upon_value]
  go_wp2_with fail
  refine (HC.out w).mono ?_
  rintro e w1 ⟨rfl, rfl⟩
  go_wp2
  go_ret
  exact ⟨rfl, rfl⟩
def fltOut : Except Int (Nat × Nat) → Value
  | .error e => .tuple #[.float .f64 0, .int .i64 0, .int .i64 e]
  | .ok (x, k) => .tuple #[.float .f64 x, .int .i64 (k : Int), .int .i64 0]
theorem le_drop (m : List UInt8) (j : Nat) (h : j < m.length) : le (m.drop j) = (m.getD j 0).toNat + 256 * le (m.drop (j + 1)) := by
  rw [List.drop_eq_getElem_cons h, le]
  simp [List.getD_eq_getElem?_getD, h]
theorem le_drop_lt (m : List UInt8) (j : Nat) (h : m.length = 8) : le (m.drop j) < 18446744073709551616 := by
  have h1 := le_lt (m.drop j)
  have h2 : 256 ^ (m.drop j).length ≤ 256 ^ 8 := Nat.pow_le_pow_right (by omega) (by rw [List.length_drop]; omega)
  have : (256 : Nat) ^ 8 = 18446744073709551616 := by decide
  omega
set_option maxRecDepth 20000 in
set_option maxHeartbeats 1000000 in
theorem refFloat_calls (A : Option Addr) (c : Nat) (l : List UInt8) (a : Nat) (w : World) (hl : l.length ≤ 140737488355328) (hr : Reads w A l) (ha : a ≤ l.length) :
    Calls Tryz.prog 184 #[.slice A l.length c, .int .i64 (a : Int)] w fun e w' => e = .returned (fltOut (rFloat l a)) ∧ w = w' := by
  have hsw : IntKind.i64.wrap ((l.length : Int) - (a : Int)) = ((l.length - a : Nat) : Int) := by rw [IntWalk.i64_in _ (by omega)]; omega
  by_cases h8 : 8 ≤ l.length - a
  · obtain ⟨m, hm⟩ : ∃ m, m = (l.drop a).take 8 := ⟨_, rfl⟩
    have hml : m.length = 8 := by rw [hm, List.length_take, List.length_drop]; omega
    obtain ⟨R, hR⟩ : ∃ R, R = rFloat l a := ⟨_, rfl⟩
    rw [← hR]
    rw [rFloat, if_pos h8, ← hm] at hR
    obtain ⟨ad, rfl, hbad⟩ := hr.out a (by omega)
    clear hbad
    have hcell : ∀ j, j < 8 → w.cell? (ad.add (a + j)) = some (.int .u8 (((m.getD j 0).toNat : Nat) : Int)) := fun j hj => by
      obtain ⟨ad', e, hc⟩ := hr.out (a + j) (by omega)
      cases e
      have hal : a + j < l.length := by omega
      have e2 : m.getD j 0 = l[a + j]'hal := by simp [hm, List.getD_eq_getElem?_getD, List.getElem?_take, hj, hal]
      rw [hc, e2]
    have hb : a + 8 ≤ l.length := by omega
    have hge : ¬ ((l.length - a : Nat) : Int) < 8 := by omega
    have HCELL := Lib.hid hcell
    have HML := Lib.hid hml
    have HR := Lib.hid hR
    clear hcell hml hR hm hr
    generalize l.length = L at *
    go_enter Tryz.func184, Tryz.ntmps184
    go_wp2_with fail
    go_loopw [7, 8] (fun n i wr => ∃ j : Nat, j ≤ 8 ∧ n = .int .u64 ((le (m.drop j) : Nat) : Int) ∧ i = .int .i64 ((j : Int) - 1) ∧ wr = w) (fun n i _ => (intOf i + 1).toNat)
    case atStart => exact ⟨8, by omega, by rw [List.drop_eq_nil_of_le (by rw [HML.out]; omega)]; rfl, rfl, rfl⟩
    case round =>
      obtain ⟨j, hj, rfl, rfl, rfl⟩ := hrel
      by_cases hj0 : j = 0
      · subst hj0
        rw [List.drop_zero]
        generalize le m = X at HR ⊢
        have HO := Lib.hid (refOf_calls X wr)
        have HBt := Lib.hid (refBits_calls (fbits X) wr)
        have hid := fbits_idem X
        by_cases hx : fbits X = X
        · have HQ := Lib.hid (HR.out.trans (if_pos hx))
          clear HR
          rw [hx] at HO HBt
          rw [hx] at HBt
          clear hx hid
          go_wp2_with (first | (go_at_call 187; refine HO.out.mono ?_; rintro e w2 ⟨rfl, rfl⟩) | (go_at_call 147; refine HBt.out.mono ?_; rintro e w2 ⟨rfl, rfl⟩))
          go_ret3
          exact ⟨by rw [HQ.out]; rfl, rfl⟩
        · have HQ := Lib.hid (HR.out.trans (if_neg hx))
          clear HR
          rw [hid] at HBt
          have q : ¬ ((fbits X : Nat) : Int) = (X : Int) := by omega
          have q' : (((fbits X : Nat) : Int) != (X : Int)) = true := by rw [bne_iff_ne]; omega
          generalize fbits X = Y at *
          go_wp2_with (first | (go_at_call 187; refine HO.out.mono ?_; rintro e w2 ⟨rfl, rfl⟩) | (go_at_call 147; refine HBt.out.mono ?_; rintro e w2 ⟨rfl, rfl⟩))
          go_ret3
          exact ⟨by rw [HQ.out]; rfl, rfl⟩
      · obtain ⟨k, rfl⟩ : ∃ k, j = k + 1 := ⟨j - 1, by omega⟩
        rw [show ((k + 1 : Nat) : Int) - 1 = (k : Int) by omega]
        have hst := le_drop m k (by rw [HML.out]; omega)
        have hvn := le_drop_lt m k HML.out
        have hcm := HCELL.out k (by omega)
        obtain ⟨v, hv⟩ : ∃ v, v = le (m.drop (k + 1)) := ⟨_, rfl⟩
        rw [← hv] at hst ⊢
        obtain ⟨y, hy⟩ : ∃ y, y = (m.getD k 0).toNat := ⟨_, rfl⟩
        rw [← hy] at hcm hst
        have hyl : y < 256 := by rw [hy]; exact (m.getD k 0).toNat_lt
        obtain ⟨q, hq⟩ : ∃ q, q = a + k := ⟨_, rfl⟩
        rw [← hq] at hcm
        have hqL : q < L := by omega
        have hqw : IntKind.i64.wrap ((a : Int) + (k : Int)) = (q : Int) := by rw [IntWalk.i64_in _ (by omega)]; omega
        have HST := Lib.hid hst
        have HVN := Lib.hid hvn
        clear hst hvn hv hy hq HR
        go_wp2
        have hw1 : IntKind.u64.wrap ((v : Int) * 256) = (v : Int) * 256 := IntWalk.u64_in _ (by have := HST.out; have := HVN.out; omega)
        have hw2 : IntKind.u64.wrap ((v : Int) * 256 + (y : Int)) = ((y + 256 * v : Nat) : Int) := by rw [IntWalk.u64_in _ (by have := HST.out; have := HVN.out; omega)]; omega
        exact ⟨⟨k, by omega, by rw [hw1, hw2, HST.out], rfl, trivial⟩, by simp [intOf]⟩
  · have e0 : rFloat l a = .error 30 := by unfold rFloat; rw [if_neg h8]
    rw [e0]
    have hlt : ((l.length - a : Nat) : Int) < 8 := by omega
    clear e0 hr
    generalize l.length = L at *
    go_enter Tryz.func184, Tryz.ntmps184
    go_wp2
    go_ret3
    exact ⟨rfl, rfl⟩
end Go.Proofs.YtihodcnnappkbaaGreatDoor
namespace Go.Proofs.YtihodcnnappkbaaGreatDoor
open Go.RowKit
set_option linter.unusedVariables false
set_option linter.unusedSimpArgs false
def bitAt (l : List UInt8) (a : Nat) : Except Int (Nat × Nat) :=
  if l.length ≤ a then .error 30 else if 1 < (l.getD a 0).toNat then .error 5 else .ok ((l.getD a 0).toNat, a + 1)
def bitOut : Except Int (Nat × Nat) → Value
  | .error e => .tuple #[.int .i64 0, .int .i64 0, .int .i64 e]
  | .ok (n, k) => .tuple #[.int .i64 (n : Int), .int .i64 (k : Int), .int .i64 0]
set_option maxRecDepth 10000 in
set_option maxHeartbeats 400000 in
theorem refBit_calls (A : Option Addr) (c : Nat) (l : List UInt8) (a : Nat) (w : World) (hl : l.length ≤ 140737488355328) (hr : Reads w A l) (ha : a ≤ l.length) :
    Calls Tryz.prog 160 #[.slice A l.length c, .int .i64 (a : Int)] w fun e w' => e = .returned (bitOut (bitAt l a)) ∧ w = w' := by
  by_cases hend : l.length ≤ a
  · have e0 : bitAt l a = .error 30 := by unfold bitAt; rw [if_pos hend]
    rw [e0]
    clear e0 hr
    generalize l.length = L at *
    go_enter Tryz.func160, Tryz.ntmps160
    go_wp2
    go_ret3
    exact ⟨rfl, rfl⟩
  · have hlt : a < l.length := by omega
    obtain ⟨ad, rfl, hc⟩ := hr.out a hlt
    have hg : l.getD a 0 = l[a]'hlt := by simp [List.getD_eq_getElem?_getD, hlt]
    obtain ⟨x, hx⟩ : ∃ x, x = (l[a]'hlt).toNat := ⟨_, rfl⟩
    obtain ⟨R, hR⟩ : ∃ R, R = bitAt l a := ⟨_, rfl⟩
    rw [← hR]
    unfold bitAt at hR
    rw [if_neg hend, hg, ← hx] at hR
    rw [← hx] at hc
    have hw : IntKind.i64.wrap (x : Int) = (x : Int) := IntWalk.i64_in _ (by have := (l[a]'hlt).toNat_lt; omega)
    have hw2 : IntKind.i64.wrap ((a : Int) + 1) = ((a + 1 : Nat) : Int) := by rw [IntWalk.i64_in _ (by omega)]; omega
    clear hr hg hx hend ha
    generalize l.length = L at *
    by_cases h1 : 1 < x
    · have HR := Lib.hid (hR.trans (if_pos h1))
      have hi : (1 : Int) < (x : Int) := by omega
      clear hR h1
      go_enter Tryz.func160, Tryz.ntmps160
      go_wp2
      go_ret3
      exact ⟨by rw [HR.out]; rfl, rfl⟩
    · have HR := Lib.hid (hR.trans (if_neg h1))
      have hi : ¬ (1 : Int) < (x : Int) := by omega
      clear hR h1
      go_enter Tryz.func160, Tryz.ntmps160
      go_wp2
      go_ret3
      exact ⟨by rw [HR.out]; rfl, rfl⟩
end Go.Proofs.YtihodcnnappkbaaGreatDoor
namespace Go.Proofs.YtihodcnnappkbaaGreatDoor
open Go
def cb (s : ByteArray) (i : Nat) : Nat := (s.get! i).toNat
def cont (s : ByteArray) (i : Nat) : Bool := decide (i < s.size) && (decide (128 ≤ cb s i) && decide (cb s i < 192))
theorem cb_lt (s : ByteArray) (i : Nat) : cb s i < 256 := (s.get! i).toNat_lt
theorem cont_model (s : ByteArray) (i : Nat) : (decide (i < s.size) && (s.get! i).toNat / 64 == 2) = cont s i := by
  unfold cont
  have h := cb_lt s i
  change (decide (i < s.size) && (cb s i / 64 == 2)) = _
  congr 1
  rw [Bool.eq_iff_iff]
  simp only [beq_iff_eq, Bool.and_eq_true, decide_eq_true_eq]
  omega
theorem decode_eq (s : ByteArray) (p : Nat) : Utf8.decode s p =
    if cb s p < 128 then (cb s p, 1)
    else if (cb s p / 32 == 6 && cont s (p + 1)) = true then (if (cb s p % 32) * 64 + cb s (p + 1) % 64 ≥ 128 then ((cb s p % 32) * 64 + cb s (p + 1) % 64, 2) else (65533, 1))
    else if (cb s p / 16 == 14 && cont s (p + 1) && cont s (p + 2)) = true then (if ((cb s p % 16) * 4096 + (cb s (p + 1) % 64) * 64 + cb s (p + 2) % 64 ≥ 2048 && Utf8.valid (((cb s p % 16) * 4096 + (cb s (p + 1) % 64) * 64 + cb s (p + 2) % 64 : Nat) : Int)) = true then ((cb s p % 16) * 4096 + (cb s (p + 1) % 64) * 64 + cb s (p + 2) % 64, 3) else (65533, 1))
    else if (cb s p / 8 == 30 && cont s (p + 1) && cont s (p + 2) && cont s (p + 3)) = true then (if ((cb s p % 8) * 262144 + (cb s (p + 1) % 64) * 4096 + (cb s (p + 2) % 64) * 64 + cb s (p + 3) % 64 ≥ 65536 && Utf8.valid (((cb s p % 8) * 262144 + (cb s (p + 1) % 64) * 4096 + (cb s (p + 2) % 64) * 64 + cb s (p + 3) % 64 : Nat) : Int)) = true then ((cb s p % 8) * 262144 + (cb s (p + 1) % 64) * 4096 + (cb s (p + 2) % 64) * 64 + cb s (p + 3) % 64, 4) else (65533, 1))
    else (65533, 1) := by
  simp only [← cont_model]
  rfl
theorem utf_step {s : ByteArray} {p : Nat} (f : Nat) (h : p < s.size) : utfGo s (f + 1) p = if (Utf8.decode s p).1 = 65533 ∧ (Utf8.decode s p).2 = 1 then false else utfGo s f (p + (Utf8.decode s p).2) := by
  rw [utfGo, if_pos h]
theorem utf_bad {s : ByteArray} {p : Nat} (f : Nat) (h : p < s.size) (hd : Utf8.decode s p = (65533, 1)) : utfGo s (f + 1) p = false := by
  rw [utf_step f h, hd, if_pos ⟨rfl, rfl⟩]
theorem utf_good {s : ByteArray} {p c n : Nat} (f : Nat) (h : p < s.size) (hd : Utf8.decode s p = (c, n)) (hn : n ≠ 1 ∨ c < 128) : utfGo s (f + 1) p = utfGo s f (p + n) := by
  rw [utf_step f h, hd, if_neg (fun ⟨a, b⟩ => by simp only at a b; omega)]
theorem utf_one {s : ByteArray} {p : Nat} (f : Nat) (h : p < s.size) (h0 : cb s p < 128) : utfGo s (f + 1) p = utfGo s f (p + 1) :=
  utf_good f h (by rw [decode_eq, if_pos h0]) (.inr h0)
theorem utf_none {s : ByteArray} {p : Nat} (f : Nat) (h : p < s.size) (h0 : 128 ≤ cb s p) (h1 : cb s p < 192 ∨ 248 ≤ cb s p) : utfGo s (f + 1) p = false := by
  have h2 := cb_lt s p
  refine utf_bad f h ?_
  have e6 : (cb s p / 32 == 6) = false := by rw [beq_eq_false_iff_ne]; omega
  have e14 : (cb s p / 16 == 14) = false := by rw [beq_eq_false_iff_ne]; omega
  have e30 : (cb s p / 8 == 30) = false := by rw [beq_eq_false_iff_ne]; omega
  rw [decode_eq, if_neg (by omega), e6, e14, e30]
  simp
def v2 (s : ByteArray) (p : Nat) : Nat := (cb s p - 192) * 64 + (cb s (p + 1) - 128)
def v3 (s : ByteArray) (p : Nat) : Nat := ((cb s p - 224) * 64 + (cb s (p + 1) - 128)) * 64 + (cb s (p + 2) - 128)
def v4 (s : ByteArray) (p : Nat) : Nat := (((cb s p - 240) * 64 + (cb s (p + 1) - 128)) * 64 + (cb s (p + 2) - 128)) * 64 + (cb s (p + 3) - 128)
theorem cont_out {s : ByteArray} {i : Nat} (h : cont s i = true) : i < s.size ∧ 128 ≤ cb s i ∧ cb s i < 192 := by
  unfold cont at h
  simpa only [Bool.and_eq_true, decide_eq_true_eq] using h
theorem valid_nat (n : Nat) : Utf8.valid (n : Int) = decide (n < 55296 ∨ 57344 ≤ n ∧ n ≤ 1114111) := by
  rw [Bool.eq_iff_iff]
  unfold Utf8.valid
  simp only [Bool.or_eq_true, Bool.and_eq_true, decide_eq_true_eq]
  omega
theorem utf_two {s : ByteArray} {p : Nat} (f : Nat) (h : p < s.size) (h0 : 192 ≤ cb s p) (h1 : cb s p < 224) :
    utfGo s (f + 1) p = if cont s (p + 1) = true ∧ 128 ≤ v2 s p then utfGo s f (p + 2) else false := by
  have e6 : (cb s p / 32 == 6) = true := by rw [beq_iff_eq]; omega
  have e14 : (cb s p / 16 == 14) = false := by rw [beq_eq_false_iff_ne]; omega
  have e30 : (cb s p / 8 == 30) = false := by rw [beq_eq_false_iff_ne]; omega
  have hd := decode_eq s p
  rw [if_neg (by omega), e6, e14, e30] at hd
  simp only [Bool.true_and, Bool.false_and, Bool.false_eq_true, if_false] at hd
  by_cases hc : cont s (p + 1) = true
  · obtain ⟨_, c1, c2⟩ := cont_out hc
    have hv : (cb s p % 32) * 64 + cb s (p + 1) % 64 = v2 s p := by unfold v2; omega
    rw [if_pos hc, hv] at hd
    by_cases hk : 128 ≤ v2 s p
    · rw [if_pos hk] at hd
      rw [if_pos ⟨hc, hk⟩]
      exact utf_good f h hd (.inl (by omega))
    · rw [if_neg hk] at hd
      rw [if_neg (fun h => hk h.2)]
      exact utf_bad f h hd
  · rw [if_neg hc] at hd
    rw [if_neg (fun h => hc h.1)]
    exact utf_bad f h hd
theorem utf_three {s : ByteArray} {p : Nat} (f : Nat) (h : p < s.size) (h0 : 224 ≤ cb s p) (h1 : cb s p < 240) :
    utfGo s (f + 1) p = if cont s (p + 1) = true ∧ cont s (p + 2) = true ∧ 2048 ≤ v3 s p ∧ (v3 s p < 55296 ∨ 57344 ≤ v3 s p) then utfGo s f (p + 3) else false := by
  have e6 : (cb s p / 32 == 6) = false := by rw [beq_eq_false_iff_ne]; omega
  have e14 : (cb s p / 16 == 14) = true := by rw [beq_iff_eq]; omega
  have e30 : (cb s p / 8 == 30) = false := by rw [beq_eq_false_iff_ne]; omega
  have hd := decode_eq s p
  rw [if_neg (by omega), e6, e14, e30] at hd
  simp only [Bool.true_and, Bool.false_and, Bool.false_eq_true, if_false] at hd
  by_cases hc : cont s (p + 1) = true ∧ cont s (p + 2) = true
  · obtain ⟨hc1, hc2⟩ := hc
    obtain ⟨_, c1, c2⟩ := cont_out hc1
    obtain ⟨_, c3, c4⟩ := cont_out hc2
    have hv : (cb s p % 16) * 4096 + (cb s (p + 1) % 64) * 64 + cb s (p + 2) % 64 = v3 s p := by unfold v3; omega
    have hm : v3 s p < 1114111 := by unfold v3; omega
    rw [if_pos (by rw [hc1, hc2]; rfl), hv, valid_nat] at hd
    by_cases hk : 2048 ≤ v3 s p ∧ (v3 s p < 55296 ∨ 57344 ≤ v3 s p)
    · rw [if_pos (by simp only [ge_iff_le, Bool.and_eq_true, decide_eq_true_eq]; omega)] at hd
      rw [if_pos ⟨hc1, hc2, hk⟩]
      exact utf_good f h hd (.inl (by omega))
    · rw [if_neg (by simp only [ge_iff_le, Bool.and_eq_true, decide_eq_true_eq]; omega)] at hd
      rw [if_neg (fun h => hk h.2.2)]
      exact utf_bad f h hd
  · rw [if_neg (by rw [Bool.and_eq_true]; exact hc)] at hd
    rw [if_neg (fun h => hc ⟨h.1, h.2.1⟩)]
    exact utf_bad f h hd
theorem utf_four {s : ByteArray} {p : Nat} (f : Nat) (h : p < s.size) (h0 : 240 ≤ cb s p) (h1 : cb s p < 248) :
    utfGo s (f + 1) p = if cont s (p + 1) = true ∧ cont s (p + 2) = true ∧ cont s (p + 3) = true ∧ 65536 ≤ v4 s p ∧ v4 s p ≤ 1114111 then utfGo s f (p + 4) else false := by
  have e6 : (cb s p / 32 == 6) = false := by rw [beq_eq_false_iff_ne]; omega
  have e14 : (cb s p / 16 == 14) = false := by rw [beq_eq_false_iff_ne]; omega
  have e30 : (cb s p / 8 == 30) = true := by rw [beq_iff_eq]; omega
  have hd := decode_eq s p
  rw [if_neg (by omega), e6, e14, e30] at hd
  simp only [Bool.true_and, Bool.false_and, Bool.false_eq_true, if_false] at hd
  by_cases hc : cont s (p + 1) = true ∧ cont s (p + 2) = true ∧ cont s (p + 3) = true
  · obtain ⟨hc1, hc2, hc3⟩ := hc
    obtain ⟨_, c1, c2⟩ := cont_out hc1
    obtain ⟨_, c3, c4⟩ := cont_out hc2
    obtain ⟨_, c5, c6⟩ := cont_out hc3
    have hv : (cb s p % 8) * 262144 + (cb s (p + 1) % 64) * 4096 + (cb s (p + 2) % 64) * 64 + cb s (p + 3) % 64 = v4 s p := by unfold v4; omega
    rw [if_pos (by rw [hc1, hc2, hc3]; rfl), hv, valid_nat] at hd
    by_cases hk : 65536 ≤ v4 s p ∧ v4 s p ≤ 1114111
    · rw [if_pos (by simp only [ge_iff_le, Bool.and_eq_true, decide_eq_true_eq]; omega)] at hd
      rw [if_pos ⟨hc1, hc2, hc3, hk⟩]
      exact utf_good f h hd (.inl (by omega))
    · rw [if_neg (by simp only [ge_iff_le, Bool.and_eq_true, decide_eq_true_eq]; omega)] at hd
      rw [if_neg (fun h => hk h.2.2.2)]
      exact utf_bad f h hd
  · rw [if_neg (by simp only [Bool.and_eq_true]; intro ⟨⟨a, b⟩, c⟩; exact hc ⟨a, b, c⟩)] at hd
    rw [if_neg (fun h => hc ⟨h.1, h.2.1, h.2.2.1⟩)]
    exact utf_bad f h hd
def vk (s : ByteArray) (p b : Nat) : Nat → Nat
  | 0 => cb s p - b
  | k + 1 => vk s p b k * 64 + (cb s (p + (k + 1)) - 128)
theorem vk_succ (s : ByteArray) (p b k : Nat) : vk s p b (k + 1) = vk s p b k * 64 + (cb s (p + (k + 1)) - 128) := rfl
theorem vk_small {s : ByteArray} {p b : Nat} (h : cb s p - b ≤ 63) (k : Nat) (hk : k ≤ 3) : vk s p b k ≤ 134217728 := by
  have h0 : vk s p b 0 ≤ 63 := h
  have h1 := vk_succ s p b 0
  have h2 := vk_succ s p b 1
  have h3 := vk_succ s p b 2
  have c1 := cb_lt s (p + (0 + 1))
  have c2 := cb_lt s (p + (1 + 1))
  have c3 := cb_lt s (p + (2 + 1))
  simp only [Nat.zero_add, Nat.reduceAdd] at h1 h2 h3 c1 c2 c3
  obtain rfl | rfl | rfl | rfl : k = 0 ∨ k = 1 ∨ k = 2 ∨ k = 3 := by omega
  all_goals omega
def conts (s : ByteArray) (p k : Nat) : Prop := ∀ j, j < k → cont s (p + (j + 1)) = true
theorem conts_zero (s : ByteArray) (p : Nat) : conts s p 0 := fun j h => by omega
theorem conts_succ {s : ByteArray} {p k : Nat} (h : conts s p k) (h1 : cont s (p + (k + 1)) = true) : conts s p (k + 1) := fun j hj => by
  by_cases e : j = k
  · subst e; exact h1
  · exact h j (by omega)
structure Seq (s : ByteArray) (f p b m least : Nat) : Prop where
  no : ∀ j, j < m → cont s (p + (j + 1)) = false → utfGo s (f + 1) p = false
  low : conts s p m → vk s p b m < least → utfGo s (f + 1) p = false
  high : conts s p m → 1114111 < vk s p b m → utfGo s (f + 1) p = false
  mid : conts s p m → 55296 ≤ vk s p b m → vk s p b m ≤ 57343 → utfGo s (f + 1) p = false
  yes : conts s p m → least ≤ vk s p b m → vk s p b m ≤ 1114111 → (vk s p b m < 55296 ∨ 57343 < vk s p b m) → utfGo s (f + 1) p = utfGo s f (p + (m + 1))
theorem seq2 {s : ByteArray} {p : Nat} (f : Nat) (h : p < s.size) (h0 : 192 ≤ cb s p) (h1 : cb s p < 224) : Seq s f p 192 1 128 := by
  have e := utf_two f h h0 h1
  have hv : v2 s p = vk s p 192 1 := rfl
  have hb : cb s (p + 1) < 256 := cb_lt _ _
  have hm : vk s p 192 1 < 55296 := by rw [← hv]; unfold v2; omega
  rw [hv] at e
  have hc : conts s p 1 → cont s (p + 1) = true := fun h => h 0 (by omega)
  refine ⟨fun j hj hn => ?_, fun a b => ?_, fun a b => ?_, fun a b c => ?_, fun a b c d => ?_⟩
  · obtain rfl : j = 0 := by omega
    rw [e, if_neg (fun h => by rw [hn] at h; exact absurd h.1 (by simp))]
  · rw [e, if_neg (fun h => by have := h.2; omega)]
  · omega
  · omega
  · rw [e, if_pos ⟨hc a, b⟩]
theorem seq3 {s : ByteArray} {p : Nat} (f : Nat) (h : p < s.size) (h0 : 224 ≤ cb s p) (h1 : cb s p < 240) : Seq s f p 224 2 2048 := by
  have e := utf_three f h h0 h1
  have hv : v3 s p = vk s p 224 2 := rfl
  have hb1 : cb s (p + 1) < 256 := cb_lt _ _
  have hb2 : cb s (p + 2) < 256 := cb_lt _ _
  have hm : vk s p 224 2 < 1114111 := by rw [← hv]; unfold v3; omega
  rw [hv] at e
  have hc : conts s p 2 → cont s (p + 1) = true ∧ cont s (p + 2) = true := fun h => ⟨h 0 (by omega), h 1 (by omega)⟩
  refine ⟨fun j hj hn => ?_, fun a b => ?_, fun a b => ?_, fun a b c => ?_, fun a b c d => ?_⟩
  · obtain rfl | rfl : j = 0 ∨ j = 1 := by omega
    · rw [e, if_neg (fun h => by rw [hn] at h; exact absurd h.1 (by simp))]
    · rw [e, if_neg (fun h => by rw [hn] at h; exact absurd h.2.1 (by simp))]
  · rw [e, if_neg (fun h => by have := h.2.2.1; omega)]
  · omega
  · rw [e, if_neg (fun h => by have := h.2.2.2; omega)]
  · rw [e, if_pos ⟨(hc a).1, (hc a).2, b, by omega⟩]
theorem seq4 {s : ByteArray} {p : Nat} (f : Nat) (h : p < s.size) (h0 : 240 ≤ cb s p) (h1 : cb s p < 248) : Seq s f p 240 3 65536 := by
  have e := utf_four f h h0 h1
  have hv : v4 s p = vk s p 240 3 := rfl
  rw [hv] at e
  have hc : conts s p 3 → cont s (p + 1) = true ∧ cont s (p + 2) = true ∧ cont s (p + 3) = true := fun h => ⟨h 0 (by omega), h 1 (by omega), h 2 (by omega)⟩
  refine ⟨fun j hj hn => ?_, fun a b => ?_, fun a b => ?_, fun a b c => ?_, fun a b c d => ?_⟩
  · obtain rfl | rfl | rfl : j = 0 ∨ j = 1 ∨ j = 2 := by omega
    · rw [e, if_neg (fun h => by rw [hn] at h; exact absurd h.1 (by simp))]
    · rw [e, if_neg (fun h => by rw [hn] at h; exact absurd h.2.1 (by simp))]
    · rw [e, if_neg (fun h => by rw [hn] at h; exact absurd h.2.2.1 (by simp))]
  · rw [e, if_neg (fun h => by have := h.2.2.2.1; omega)]
  · rw [e, if_neg (fun h => by have := h.2.2.2.2; omega)]
  · have b' : 55296 ≤ vk s p 240 3 := b
    have c' : vk s p 240 3 ≤ 57343 := c
    rw [e, if_neg (fun h => by have := h.2.2.2.1; omega)]
  · rw [e, if_pos ⟨(hc a).1, (hc a).2.1, (hc a).2.2, b, c⟩]
end Go.Proofs.YtihodcnnappkbaaGreatDoor
namespace Go.Proofs.YtihodcnnappkbaaGreatDoor
open Go.RowKit Go.Proofs
set_option linter.unusedVariables false
set_option linter.unusedSimpArgs false
theorem cb_at {s : ByteArray} {i : Nat} (h : i < s.size) : cb s i = (s[i]'h).toNat := by
  unfold cb
  exact congrArg UInt8.toNat (get_at s i h)
theorem cont_yes {s : ByteArray} {i : Nat} (h : i < s.size) (h1 : 128 ≤ (s[i]'h).toNat) (h2 : (s[i]'h).toNat < 192) : cont s i = true := by
  unfold cont
  rw [cb_at h]
  simp only [Bool.and_eq_true, decide_eq_true_eq]
  exact ⟨h, h1, h2⟩
theorem cont_no {s : ByteArray} {i : Nat} (h : i < s.size) (h1 : ¬ (128 ≤ (s[i]'h).toNat ∧ (s[i]'h).toNat < 192)) : cont s i = false := by
  rw [← Bool.not_eq_true]
  intro hc
  have := cont_out hc
  rw [cb_at h] at this
  exact h1 this.2
theorem cont_end {s : ByteArray} {i : Nat} (h : s.size ≤ i) : cont s i = false := by
  rw [← Bool.not_eq_true]
  intro hc
  have := (cont_out hc).1
  omega
set_option maxRecDepth 20000 in
set_option maxHeartbeats 4000000 in
theorem refUtf_calls (s : ByteArray) (w : World) (hs : s.size ≤ 140737488355328) :
    Calls Tryz.prog 181 #[.string s] w fun e w' => e = .returned (.bool (utfOk s)) ∧ w = w' := by
  go_enter Tryz.func181, Tryz.ntmps181
  go_wp2_with fail
  go_loopw [3] (fun a wr => ∃ p f : Nat, a = .int .i64 (p : Int) ∧ s.size ≤ p + f ∧ utfOk s = utfGo s f p ∧ p ≤ s.size ∧ wr = w) (fun a _ => s.size - (intOf a).toNat)
  case atStart => exact ⟨0, s.size, rfl, by omega, rfl, by omega, rfl⟩
  case round =>
    obtain ⟨p, f0, rfl, hf, hgo, hpl, rfl⟩ := hrel
    by_cases hp : p < s.size
    case neg =>
      rw [utfGo_end s f0 p hp] at hgo
      have HG := Lib.hid hgo
      clear hgo
      go_wp2
      go_ret
      exact ⟨ret_bool HG.out.symm, rfl⟩
    case pos =>
    obtain ⟨f, rfl⟩ : ∃ f, f0 = f + 1 := ⟨f0 - 1, by omega⟩
    have hcb := cb_at hp
    have hx : (s[p]'hp).toNat < 256 := (s[p]'hp).toNat_lt
    have hconv : IntKind.i64.wrap ((s[p]'hp).toNat : Int) = ((s[p]'hp).toNat : Int) := IntWalk.i64_in _ (by omega)
    by_cases h128 : (s[p]'hp).toNat < 128
    case pos =>
      have HG := Lib.hid (hgo.trans (utf_one f hp (by omega)))
      have q1 : decide (((s[p]'hp).toNat : Int) < 128) = true := by rw [decide_eq_true_eq]; omega
      have q2 : decide (((s[p]'hp).toNat : Int) < 0) = false := by rw [decide_eq_false_iff_not]; omega
      have q3 : decide ((1114111 : Int) < ((s[p]'hp).toNat : Int)) = false := by rw [decide_eq_false_iff_not]; omega
      have q4 : decide ((55296 : Int) ≤ ((s[p]'hp).toNat : Int)) = false := by rw [decide_eq_false_iff_not]; omega
      have i1 : ((s[p]'hp).toNat : Int) < 128 := by omega
      have i3 : ¬ (1114111 : Int) < ((s[p]'hp).toNat : Int) := by omega
      have i4 : ¬ (55296 : Int) ≤ ((s[p]'hp).toNat : Int) := by omega
      clear hgo h128 hcb
      go_wp2_with fail
      refine wp_loop_rounds 1 ?_
      rw [rounds_succ]
      go_wp2
      exact ⟨⟨p + 1, f, by go_num, by omega, HG.out, by omega, trivial⟩, by simp [intOf]; omega⟩
    case neg =>
    by_cases hno : (s[p]'hp).toNat < 192 ∨ 248 ≤ (s[p]'hp).toNat
    case pos =>
      have HG := Lib.hid (hgo.trans (utf_none f hp (by omega) (by omega)))
      clear hgo hcb
      have i1 : ¬ ((s[p]'hp).toNat : Int) < 128 := by omega
      have q1 : decide (((s[p]'hp).toNat : Int) < 128) = false := by rw [decide_eq_false_iff_not]; omega
      rcases hno with hlow | hhigh
      · have q2 : decide ((192 : Int) ≤ ((s[p]'hp).toNat : Int)) = false := by rw [decide_eq_false_iff_not]; omega
        have q3 : decide ((224 : Int) ≤ ((s[p]'hp).toNat : Int)) = false := by rw [decide_eq_false_iff_not]; omega
        have q4 : decide ((240 : Int) ≤ ((s[p]'hp).toNat : Int)) = false := by rw [decide_eq_false_iff_not]; omega
        go_wp2
        go_ret
        exact ⟨ret_bool HG.out.symm, rfl⟩
      · have q2 : decide ((192 : Int) ≤ ((s[p]'hp).toNat : Int)) = true := by rw [decide_eq_true_eq]; omega
        have q3 : decide (((s[p]'hp).toNat : Int) < 224) = false := by rw [decide_eq_false_iff_not]; omega
        have q4 : decide ((224 : Int) ≤ ((s[p]'hp).toNat : Int)) = true := by rw [decide_eq_true_eq]; omega
        have q5 : decide (((s[p]'hp).toNat : Int) < 240) = false := by rw [decide_eq_false_iff_not]; omega
        have q6 : decide ((240 : Int) ≤ ((s[p]'hp).toNat : Int)) = true := by rw [decide_eq_true_eq]; omega
        have q7 : decide (((s[p]'hp).toNat : Int) < 248) = false := by rw [decide_eq_false_iff_not]; omega
        go_wp2
        go_ret
        exact ⟨ret_bool HG.out.symm, rfl⟩
    case neg =>
    have i1 : ¬ ((s[p]'hp).toNat : Int) < 128 := by omega
    have q1 : decide (((s[p]'hp).toNat : Int) < 128) = false := by rw [decide_eq_false_iff_not]; omega
    have q2 : decide ((192 : Int) ≤ ((s[p]'hp).toNat : Int)) = true := by rw [decide_eq_true_eq]; omega
    by_cases h224 : (s[p]'hp).toNat < 224
    case pos =>
      have HSEQ := Lib.hid (seq2 f hp (by omega) (by omega))
      have HG := Lib.hid hgo
      have hv0 : ((s[p]'hp).toNat : Int) - 192 = ((vk s p 192 0 : Nat) : Int) := by show _ = ((cb s p - 192 : Nat) : Int); omega
      have HV0 := Lib.hid hv0
      have hsm := fun k hk => vk_small (s := s) (p := p) (b := 192) (by omega) k hk
      have HSM := Lib.hid hsm
      have q3 : decide (((s[p]'hp).toNat : Int) < 224) = true := by rw [decide_eq_true_eq]; omega
      clear hgo hv0 hsm hcb hno h128
      go_wp2_with fail
      clear q3 i1 q1 q2 hconv hx
      go_loopw [4, 7] (fun v i wz => ∃ k : Nat, k ≤ 1 ∧ v = .int .i64 ((vk s p 192 k : Nat) : Int) ∧ i = .int .i64 ((k + 1 : Nat) : Int) ∧ conts s p k ∧ wz = wr) (fun _ i _ => 2 - (intOf i).toNat)
      case atStart => exact ⟨0, by omega, by rw [← HV0.out], rfl, conts_zero s p, rfl⟩
      case round =>
        obtain ⟨k, hk, rfl, rfl, hct, rfl⟩ := hrel
        have HCT := Lib.hid hct
        clear hct
        have hv := HSM.out k (by omega)
        obtain ⟨V, hV⟩ : ∃ V, V = vk s p 192 k := ⟨_, rfl⟩
        rw [← hV] at hv ⊢
        have HV := Lib.hid hV
        clear hV HV0
        by_cases hkm : k < 1
        · have hlt : (((k + 1 : Nat) : Int)) < 2 := by omega
          obtain ⟨q, hq⟩ : ∃ q, q = p + (k + 1) := ⟨_, rfl⟩
          have hqw : IntKind.i64.wrap ((p : Int) + ((k + 1 : Nat) : Int)) = (q : Int) := by rw [IntWalk.i64_in _ (by omega)]; omega
          have hkw : IntKind.i64.wrap (((k + 1 : Nat) : Int) + 1) = ((k + 2 : Nat) : Int) := by rw [IntWalk.i64_in _ (by omega)]; omega
          have HQ := Lib.hid hq
          clear hq
          generalize hj : k + 1 = j at hlt hqw hkw ⊢
          have HJ := Lib.hid hj
          clear hj
          by_cases hqs : q < s.size
          · have hge : decide (s.size ≤ q) = false := by rw [decide_eq_false_iff_not]; omega
            have hge2 : ¬ s.size ≤ q := by omega
            have hyl : (s[q]'hqs).toNat < 256 := (s[q]'hqs).toNat_lt
            by_cases hy1 : (s[q]'hqs).toNat < 128
            · have r1 : decide (((s[q]'hqs).toNat : Int) < 128) = true := by rw [decide_eq_true_eq]; omega
              have HE := Lib.hid (HG.out.trans (HSEQ.out.no k hkm (by rw [← HQ.out]; exact cont_no hqs (by omega))))
              clear hy1 HG HSEQ
              go_wp2
              go_ret
              exact ⟨ret_bool HE.out.symm, rfl⟩
            · have r1 : decide (((s[q]'hqs).toNat : Int) < 128) = false := by rw [decide_eq_false_iff_not]; omega
              by_cases hy2 : (s[q]'hqs).toNat < 192
              · have r2 : decide ((192 : Int) ≤ ((s[q]'hqs).toNat : Int)) = false := by rw [decide_eq_false_iff_not]; omega
                have hcq : cont s (p + (k + 1)) = true := by rw [← HQ.out]; exact cont_yes hqs (by omega) (by omega)
                have HC1 := Lib.hid (conts_succ HCT.out hcq)
                have hvs : vk s p 192 (k + 1) = V * 64 + ((s[q]'hqs).toNat - 128) := by rw [vk_succ, ← HV.out, ← HQ.out, cb_at hqs]
                have w1 : IntKind.i64.wrap ((V : Int) * 64) = (V : Int) * 64 := IntWalk.i64_in _ (by omega)
                have w2 : IntKind.i64.wrap ((V : Int) * 64 + ((s[q]'hqs).toNat : Int)) = (V : Int) * 64 + ((s[q]'hqs).toNat : Int) := IntWalk.i64_in _ (by omega)
                have w3 : (V : Int) * 64 + ((s[q]'hqs).toNat : Int) - 128 = ((vk s p 192 (k + 1) : Nat) : Int) := by rw [hvs]; omega
                have HW3 := Lib.hid w3
                have c1 : IntKind.i64.wrap ((s[q]'hqs).toNat : Int) = ((s[q]'hqs).toNat : Int) := IntWalk.i64_in _ (by omega)
                clear hcq hvs w3 hy1 hy2
                go_wp2
                exact ⟨⟨k + 1, by omega, by rw [← HW3.out], by go_num, HC1.out, trivial⟩, by rw [← HJ.out]; simp [intOf]; omega⟩
              · have r2 : decide ((192 : Int) ≤ ((s[q]'hqs).toNat : Int)) = true := by rw [decide_eq_true_eq]; omega
                have HE := Lib.hid (HG.out.trans (HSEQ.out.no k hkm (by rw [← HQ.out]; exact cont_no hqs (by omega))))
                clear hy1 hy2 HG HSEQ
                go_wp2
                go_ret
                exact ⟨ret_bool HE.out.symm, rfl⟩
          · have hge : decide (s.size ≤ q) = true := by rw [decide_eq_true_eq]; omega
            have hge2 : s.size ≤ q := by omega
            have HE := Lib.hid (HG.out.trans (HSEQ.out.no k hkm (by rw [← HQ.out]; exact cont_end hge2)))
            clear HG HSEQ hqs
            go_wp2
            go_ret
            exact ⟨ret_bool HE.out.symm, rfl⟩
        · obtain rfl : k = 1 := by omega
          clear hkm hk
          have hpn : IntKind.i64.wrap ((p : Int) + 2) = ((p + 2 : Nat) : Int) := by rw [IntWalk.i64_in _ (by omega)]; omega
          by_cases a1 : V < 128
          · have r1 : decide ((V : Int) < 128) = true := by rw [decide_eq_true_eq]; omega
            have HE := Lib.hid (HG.out.trans (HSEQ.out.low HCT.out (by rw [← HV.out]; exact a1)))
            clear HG HSEQ a1
            go_wp2
            go_ret
            exact ⟨ret_bool HE.out.symm, rfl⟩
          · have r1 : decide ((V : Int) < 128) = false := by rw [decide_eq_false_iff_not]; omega
            by_cases a2 : 1114111 < V
            · have r2 : decide ((1114111 : Int) < (V : Int)) = true := by rw [decide_eq_true_eq]; omega
              have HE := Lib.hid (HG.out.trans (HSEQ.out.high HCT.out (by rw [← HV.out]; exact a2)))
              clear HG HSEQ a1 a2
              go_wp2
              go_ret
              exact ⟨ret_bool HE.out.symm, rfl⟩
            · have r2 : decide ((1114111 : Int) < (V : Int)) = false := by rw [decide_eq_false_iff_not]; omega
              by_cases a3 : 55296 ≤ V
              · have r3 : decide ((55296 : Int) ≤ (V : Int)) = true := by rw [decide_eq_true_eq]; omega
                by_cases a4 : V ≤ 57343
                · have r4 : decide ((V : Int) ≤ 57343) = true := by rw [decide_eq_true_eq]; omega
                  have HE := Lib.hid (HG.out.trans (HSEQ.out.mid HCT.out (by rw [← HV.out]; exact a3) (by rw [← HV.out]; exact a4)))
                  clear HG HSEQ a1 a2 a3 a4
                  go_wp2
                  go_ret
                  exact ⟨ret_bool HE.out.symm, rfl⟩
                · have r4 : decide ((V : Int) ≤ 57343) = false := by rw [decide_eq_false_iff_not]; omega
                  have HE := Lib.hid (HG.out.trans (HSEQ.out.yes HCT.out (by rw [← HV.out]; omega) (by rw [← HV.out]; omega) (by rw [← HV.out]; omega)))
                  have hpos : p + 2 ≤ s.size := by have := (cont_out (HCT.out 0 (by omega))).1; omega
                  clear HG HSEQ a1 a2 a3 a4
                  go_wp2
                  exact ⟨⟨p + 2, f, by go_num, by omega, HE.out, hpos, trivial⟩, by simp [intOf]; omega⟩
              · have r3 : decide ((55296 : Int) ≤ (V : Int)) = false := by rw [decide_eq_false_iff_not]; omega
                have HE := Lib.hid (HG.out.trans (HSEQ.out.yes HCT.out (by rw [← HV.out]; omega) (by rw [← HV.out]; omega) (by rw [← HV.out]; omega)))
                have hpos : p + 2 ≤ s.size := by have := (cont_out (HCT.out 0 (by omega))).1; omega
                clear HG HSEQ a1 a2 a3
                go_wp2
                exact ⟨⟨p + 2, f, by go_num, by omega, HE.out, hpos, trivial⟩, by simp [intOf]; omega⟩
    case neg =>
    by_cases h240 : (s[p]'hp).toNat < 240
    case pos =>
      have HSEQ := Lib.hid (seq3 f hp (by omega) (by omega))
      have HG := Lib.hid hgo
      have hv0 : ((s[p]'hp).toNat : Int) - 224 = ((vk s p 224 0 : Nat) : Int) := by show _ = ((cb s p - 224 : Nat) : Int); omega
      have HV0 := Lib.hid hv0
      have hsm := fun k hk => vk_small (s := s) (p := p) (b := 224) (by omega) k hk
      have HSM := Lib.hid hsm
      have q3 : decide (((s[p]'hp).toNat : Int) < 224) = false := by rw [decide_eq_false_iff_not]; omega
      have q4 : decide ((224 : Int) ≤ ((s[p]'hp).toNat : Int)) = true := by rw [decide_eq_true_eq]; omega
      have q5 : decide (((s[p]'hp).toNat : Int) < 240) = true := by rw [decide_eq_true_eq]; omega
      clear hgo hv0 hsm hcb hno h128
      go_wp2_with fail
      clear q3 q4 q5 i1 q1 q2 hconv hx
      go_loopw [4, 7] (fun v i wz => ∃ k : Nat, k ≤ 2 ∧ v = .int .i64 ((vk s p 224 k : Nat) : Int) ∧ i = .int .i64 ((k + 1 : Nat) : Int) ∧ conts s p k ∧ wz = wr) (fun _ i _ => 3 - (intOf i).toNat)
      case atStart => exact ⟨0, by omega, by rw [← HV0.out], rfl, conts_zero s p, rfl⟩
      case round =>
        obtain ⟨k, hk, rfl, rfl, hct, rfl⟩ := hrel
        have HCT := Lib.hid hct
        clear hct
        have hv := HSM.out k (by omega)
        obtain ⟨V, hV⟩ : ∃ V, V = vk s p 224 k := ⟨_, rfl⟩
        rw [← hV] at hv ⊢
        have HV := Lib.hid hV
        clear hV HV0
        by_cases hkm : k < 2
        · have hlt : (((k + 1 : Nat) : Int)) < 3 := by omega
          obtain ⟨q, hq⟩ : ∃ q, q = p + (k + 1) := ⟨_, rfl⟩
          have hqw : IntKind.i64.wrap ((p : Int) + ((k + 1 : Nat) : Int)) = (q : Int) := by rw [IntWalk.i64_in _ (by omega)]; omega
          have hkw : IntKind.i64.wrap (((k + 1 : Nat) : Int) + 1) = ((k + 2 : Nat) : Int) := by rw [IntWalk.i64_in _ (by omega)]; omega
          have HQ := Lib.hid hq
          clear hq
          generalize hj : k + 1 = j at hlt hqw hkw ⊢
          have HJ := Lib.hid hj
          clear hj
          by_cases hqs : q < s.size
          · have hge : decide (s.size ≤ q) = false := by rw [decide_eq_false_iff_not]; omega
            have hge2 : ¬ s.size ≤ q := by omega
            have hyl : (s[q]'hqs).toNat < 256 := (s[q]'hqs).toNat_lt
            by_cases hy1 : (s[q]'hqs).toNat < 128
            · have r1 : decide (((s[q]'hqs).toNat : Int) < 128) = true := by rw [decide_eq_true_eq]; omega
              have HE := Lib.hid (HG.out.trans (HSEQ.out.no k hkm (by rw [← HQ.out]; exact cont_no hqs (by omega))))
              clear hy1 HG HSEQ
              go_wp2
              go_ret
              exact ⟨ret_bool HE.out.symm, rfl⟩
            · have r1 : decide (((s[q]'hqs).toNat : Int) < 128) = false := by rw [decide_eq_false_iff_not]; omega
              by_cases hy2 : (s[q]'hqs).toNat < 192
              · have r2 : decide ((192 : Int) ≤ ((s[q]'hqs).toNat : Int)) = false := by rw [decide_eq_false_iff_not]; omega
                have hcq : cont s (p + (k + 1)) = true := by rw [← HQ.out]; exact cont_yes hqs (by omega) (by omega)
                have HC1 := Lib.hid (conts_succ HCT.out hcq)
                have hvs : vk s p 224 (k + 1) = V * 64 + ((s[q]'hqs).toNat - 128) := by rw [vk_succ, ← HV.out, ← HQ.out, cb_at hqs]
                have w1 : IntKind.i64.wrap ((V : Int) * 64) = (V : Int) * 64 := IntWalk.i64_in _ (by omega)
                have w2 : IntKind.i64.wrap ((V : Int) * 64 + ((s[q]'hqs).toNat : Int)) = (V : Int) * 64 + ((s[q]'hqs).toNat : Int) := IntWalk.i64_in _ (by omega)
                have w3 : (V : Int) * 64 + ((s[q]'hqs).toNat : Int) - 128 = ((vk s p 224 (k + 1) : Nat) : Int) := by rw [hvs]; omega
                have HW3 := Lib.hid w3
                have c1 : IntKind.i64.wrap ((s[q]'hqs).toNat : Int) = ((s[q]'hqs).toNat : Int) := IntWalk.i64_in _ (by omega)
                clear hcq hvs w3 hy1 hy2
                go_wp2
                exact ⟨⟨k + 1, by omega, by rw [← HW3.out], by go_num, HC1.out, trivial⟩, by rw [← HJ.out]; simp [intOf]; omega⟩
              · have r2 : decide ((192 : Int) ≤ ((s[q]'hqs).toNat : Int)) = true := by rw [decide_eq_true_eq]; omega
                have HE := Lib.hid (HG.out.trans (HSEQ.out.no k hkm (by rw [← HQ.out]; exact cont_no hqs (by omega))))
                clear hy1 hy2 HG HSEQ
                go_wp2
                go_ret
                exact ⟨ret_bool HE.out.symm, rfl⟩
          · have hge : decide (s.size ≤ q) = true := by rw [decide_eq_true_eq]; omega
            have hge2 : s.size ≤ q := by omega
            have HE := Lib.hid (HG.out.trans (HSEQ.out.no k hkm (by rw [← HQ.out]; exact cont_end hge2)))
            clear HG HSEQ hqs
            go_wp2
            go_ret
            exact ⟨ret_bool HE.out.symm, rfl⟩
        · obtain rfl : k = 2 := by omega
          clear hkm hk
          have hpn : IntKind.i64.wrap ((p : Int) + 3) = ((p + 3 : Nat) : Int) := by rw [IntWalk.i64_in _ (by omega)]; omega
          by_cases a1 : V < 2048
          · have r1 : decide ((V : Int) < 2048) = true := by rw [decide_eq_true_eq]; omega
            have HE := Lib.hid (HG.out.trans (HSEQ.out.low HCT.out (by rw [← HV.out]; exact a1)))
            clear HG HSEQ a1
            go_wp2
            go_ret
            exact ⟨ret_bool HE.out.symm, rfl⟩
          · have r1 : decide ((V : Int) < 2048) = false := by rw [decide_eq_false_iff_not]; omega
            by_cases a2 : 1114111 < V
            · have r2 : decide ((1114111 : Int) < (V : Int)) = true := by rw [decide_eq_true_eq]; omega
              have HE := Lib.hid (HG.out.trans (HSEQ.out.high HCT.out (by rw [← HV.out]; exact a2)))
              clear HG HSEQ a1 a2
              go_wp2
              go_ret
              exact ⟨ret_bool HE.out.symm, rfl⟩
            · have r2 : decide ((1114111 : Int) < (V : Int)) = false := by rw [decide_eq_false_iff_not]; omega
              by_cases a3 : 55296 ≤ V
              · have r3 : decide ((55296 : Int) ≤ (V : Int)) = true := by rw [decide_eq_true_eq]; omega
                by_cases a4 : V ≤ 57343
                · have r4 : decide ((V : Int) ≤ 57343) = true := by rw [decide_eq_true_eq]; omega
                  have HE := Lib.hid (HG.out.trans (HSEQ.out.mid HCT.out (by rw [← HV.out]; exact a3) (by rw [← HV.out]; exact a4)))
                  clear HG HSEQ a1 a2 a3 a4
                  go_wp2
                  go_ret
                  exact ⟨ret_bool HE.out.symm, rfl⟩
                · have r4 : decide ((V : Int) ≤ 57343) = false := by rw [decide_eq_false_iff_not]; omega
                  have HE := Lib.hid (HG.out.trans (HSEQ.out.yes HCT.out (by rw [← HV.out]; omega) (by rw [← HV.out]; omega) (by rw [← HV.out]; omega)))
                  have hpos : p + 3 ≤ s.size := by have := (cont_out (HCT.out 1 (by omega))).1; omega
                  clear HG HSEQ a1 a2 a3 a4
                  go_wp2
                  exact ⟨⟨p + 3, f, by go_num, by omega, HE.out, hpos, trivial⟩, by simp [intOf]; omega⟩
              · have r3 : decide ((55296 : Int) ≤ (V : Int)) = false := by rw [decide_eq_false_iff_not]; omega
                have HE := Lib.hid (HG.out.trans (HSEQ.out.yes HCT.out (by rw [← HV.out]; omega) (by rw [← HV.out]; omega) (by rw [← HV.out]; omega)))
                have hpos : p + 3 ≤ s.size := by have := (cont_out (HCT.out 1 (by omega))).1; omega
                clear HG HSEQ a1 a2 a3
                go_wp2
                exact ⟨⟨p + 3, f, by go_num, by omega, HE.out, hpos, trivial⟩, by simp [intOf]; omega⟩
    case neg =>
    have HSEQ := Lib.hid (seq4 f hp (by omega) (by omega))
    have HG := Lib.hid hgo
    have hv0 : ((s[p]'hp).toNat : Int) - 240 = ((vk s p 240 0 : Nat) : Int) := by show _ = ((cb s p - 240 : Nat) : Int); omega
    have HV0 := Lib.hid hv0
    have hsm := fun k hk => vk_small (s := s) (p := p) (b := 240) (by omega) k hk
    have HSM := Lib.hid hsm
    have q3 : decide (((s[p]'hp).toNat : Int) < 224) = false := by rw [decide_eq_false_iff_not]; omega
    have q4 : decide ((224 : Int) ≤ ((s[p]'hp).toNat : Int)) = true := by rw [decide_eq_true_eq]; omega
    have q5 : decide (((s[p]'hp).toNat : Int) < 240) = false := by rw [decide_eq_false_iff_not]; omega
    have q6 : decide ((240 : Int) ≤ ((s[p]'hp).toNat : Int)) = true := by rw [decide_eq_true_eq]; omega
    have q7 : decide (((s[p]'hp).toNat : Int) < 248) = true := by rw [decide_eq_true_eq]; omega
    clear hgo hv0 hsm hcb hno h128
    go_wp2_with fail
    clear q3 q4 q5 q6 q7 i1 q1 q2 hconv hx
    go_loopw [4, 7] (fun v i wz => ∃ k : Nat, k ≤ 3 ∧ v = .int .i64 ((vk s p 240 k : Nat) : Int) ∧ i = .int .i64 ((k + 1 : Nat) : Int) ∧ conts s p k ∧ wz = wr) (fun _ i _ => 4 - (intOf i).toNat)
    case atStart => exact ⟨0, by omega, by rw [← HV0.out], rfl, conts_zero s p, rfl⟩
    case round =>
      obtain ⟨k, hk, rfl, rfl, hct, rfl⟩ := hrel
      have HCT := Lib.hid hct
      clear hct
      have hv := HSM.out k (by omega)
      obtain ⟨V, hV⟩ : ∃ V, V = vk s p 240 k := ⟨_, rfl⟩
      rw [← hV] at hv ⊢
      have HV := Lib.hid hV
      clear hV HV0
      by_cases hkm : k < 3
      · have hlt : (((k + 1 : Nat) : Int)) < 4 := by omega
        obtain ⟨q, hq⟩ : ∃ q, q = p + (k + 1) := ⟨_, rfl⟩
        have hqw : IntKind.i64.wrap ((p : Int) + ((k + 1 : Nat) : Int)) = (q : Int) := by rw [IntWalk.i64_in _ (by omega)]; omega
        have hkw : IntKind.i64.wrap (((k + 1 : Nat) : Int) + 1) = ((k + 2 : Nat) : Int) := by rw [IntWalk.i64_in _ (by omega)]; omega
        have HQ := Lib.hid hq
        clear hq
        generalize hj : k + 1 = j at hlt hqw hkw ⊢
        have HJ := Lib.hid hj
        clear hj
        by_cases hqs : q < s.size
        · have hge : decide (s.size ≤ q) = false := by rw [decide_eq_false_iff_not]; omega
          have hge2 : ¬ s.size ≤ q := by omega
          have hyl : (s[q]'hqs).toNat < 256 := (s[q]'hqs).toNat_lt
          by_cases hy1 : (s[q]'hqs).toNat < 128
          · have r1 : decide (((s[q]'hqs).toNat : Int) < 128) = true := by rw [decide_eq_true_eq]; omega
            have HE := Lib.hid (HG.out.trans (HSEQ.out.no k hkm (by rw [← HQ.out]; exact cont_no hqs (by omega))))
            clear hy1 HG HSEQ
            go_wp2
            go_ret
            exact ⟨ret_bool HE.out.symm, rfl⟩
          · have r1 : decide (((s[q]'hqs).toNat : Int) < 128) = false := by rw [decide_eq_false_iff_not]; omega
            by_cases hy2 : (s[q]'hqs).toNat < 192
            · have r2 : decide ((192 : Int) ≤ ((s[q]'hqs).toNat : Int)) = false := by rw [decide_eq_false_iff_not]; omega
              have hcq : cont s (p + (k + 1)) = true := by rw [← HQ.out]; exact cont_yes hqs (by omega) (by omega)
              have HC1 := Lib.hid (conts_succ HCT.out hcq)
              have hvs : vk s p 240 (k + 1) = V * 64 + ((s[q]'hqs).toNat - 128) := by rw [vk_succ, ← HV.out, ← HQ.out, cb_at hqs]
              have w1 : IntKind.i64.wrap ((V : Int) * 64) = (V : Int) * 64 := IntWalk.i64_in _ (by omega)
              have w2 : IntKind.i64.wrap ((V : Int) * 64 + ((s[q]'hqs).toNat : Int)) = (V : Int) * 64 + ((s[q]'hqs).toNat : Int) := IntWalk.i64_in _ (by omega)
              have w3 : (V : Int) * 64 + ((s[q]'hqs).toNat : Int) - 128 = ((vk s p 240 (k + 1) : Nat) : Int) := by rw [hvs]; omega
              have HW3 := Lib.hid w3
              have c1 : IntKind.i64.wrap ((s[q]'hqs).toNat : Int) = ((s[q]'hqs).toNat : Int) := IntWalk.i64_in _ (by omega)
              clear hcq hvs w3 hy1 hy2
              go_wp2
              exact ⟨⟨k + 1, by omega, by rw [← HW3.out], by go_num, HC1.out, trivial⟩, by rw [← HJ.out]; simp [intOf]; omega⟩
            · have r2 : decide ((192 : Int) ≤ ((s[q]'hqs).toNat : Int)) = true := by rw [decide_eq_true_eq]; omega
              have HE := Lib.hid (HG.out.trans (HSEQ.out.no k hkm (by rw [← HQ.out]; exact cont_no hqs (by omega))))
              clear hy1 hy2 HG HSEQ
              go_wp2
              go_ret
              exact ⟨ret_bool HE.out.symm, rfl⟩
        · have hge : decide (s.size ≤ q) = true := by rw [decide_eq_true_eq]; omega
          have hge2 : s.size ≤ q := by omega
          have HE := Lib.hid (HG.out.trans (HSEQ.out.no k hkm (by rw [← HQ.out]; exact cont_end hge2)))
          clear HG HSEQ hqs
          go_wp2
          go_ret
          exact ⟨ret_bool HE.out.symm, rfl⟩
      · obtain rfl : k = 3 := by omega
        clear hkm hk
        have hpn : IntKind.i64.wrap ((p : Int) + 4) = ((p + 4 : Nat) : Int) := by rw [IntWalk.i64_in _ (by omega)]; omega
        by_cases a1 : V < 65536
        · have r1 : decide ((V : Int) < 65536) = true := by rw [decide_eq_true_eq]; omega
          have HE := Lib.hid (HG.out.trans (HSEQ.out.low HCT.out (by rw [← HV.out]; exact a1)))
          clear HG HSEQ a1
          go_wp2
          go_ret
          exact ⟨ret_bool HE.out.symm, rfl⟩
        · have r1 : decide ((V : Int) < 65536) = false := by rw [decide_eq_false_iff_not]; omega
          by_cases a2 : 1114111 < V
          · have r2 : decide ((1114111 : Int) < (V : Int)) = true := by rw [decide_eq_true_eq]; omega
            have HE := Lib.hid (HG.out.trans (HSEQ.out.high HCT.out (by rw [← HV.out]; exact a2)))
            clear HG HSEQ a1 a2
            go_wp2
            go_ret
            exact ⟨ret_bool HE.out.symm, rfl⟩
          · have r2 : decide ((1114111 : Int) < (V : Int)) = false := by rw [decide_eq_false_iff_not]; omega
            by_cases a3 : 55296 ≤ V
            · have r3 : decide ((55296 : Int) ≤ (V : Int)) = true := by rw [decide_eq_true_eq]; omega
              by_cases a4 : V ≤ 57343
              · have r4 : decide ((V : Int) ≤ 57343) = true := by rw [decide_eq_true_eq]; omega
                have HE := Lib.hid (HG.out.trans (HSEQ.out.mid HCT.out (by rw [← HV.out]; exact a3) (by rw [← HV.out]; exact a4)))
                clear HG HSEQ a1 a2 a3 a4
                go_wp2
                go_ret
                exact ⟨ret_bool HE.out.symm, rfl⟩
              · have r4 : decide ((V : Int) ≤ 57343) = false := by rw [decide_eq_false_iff_not]; omega
                have HE := Lib.hid (HG.out.trans (HSEQ.out.yes HCT.out (by rw [← HV.out]; omega) (by rw [← HV.out]; omega) (by rw [← HV.out]; omega)))
                have hpos : p + 4 ≤ s.size := by have := (cont_out (HCT.out 2 (by omega))).1; omega
                clear HG HSEQ a1 a2 a3 a4
                go_wp2
                exact ⟨⟨p + 4, f, by go_num, by omega, HE.out, hpos, trivial⟩, by simp [intOf]; omega⟩
            · have r3 : decide ((55296 : Int) ≤ (V : Int)) = false := by rw [decide_eq_false_iff_not]; omega
              have HE := Lib.hid (HG.out.trans (HSEQ.out.yes HCT.out (by rw [← HV.out]; omega) (by rw [← HV.out]; omega) (by rw [← HV.out]; omega)))
              have hpos : p + 4 ≤ s.size := by have := (cont_out (HCT.out 2 (by omega))).1; omega
              clear HG HSEQ a1 a2 a3
              go_wp2
              exact ⟨⟨p + 4, f, by go_num, by omega, HE.out, hpos, trivial⟩, by simp [intOf]; omega⟩
end Go.Proofs.YtihodcnnappkbaaGreatDoor
