/-
  The reference's way to read a number in base 128: plain. No condition. The walk of the reference's Get of leb. Condition: the bytes read; the place is none beyond their end. The walk of the reference's some: so many numbers, each below its limit. Condition: the slices read, the limits are small. The walk of the reference's text of a schema's bytes. Condition: the bytes read, the row has room for them. The walk of the reference's float of a schema's bytes. Condition: the bytes read. The walk of the reference's bit of a schema's bytes. Condition: the bytes read. The walk of the reference's scalar: a value of a kind without items. Condition: the bytes read, the row has room for them.
-/
import Derived.Test.YtbhhhkilljnkfaaGreatDoorG2
import Derived.Test.YtbhhhkilljnkfaaGreatDoorG6
import Derived.Test.YtbhhhkilljnkfaaGreatDoorG8
import Derived.Test.YtbhhhkilljnkfaaGreatDoorG7
import Derived.Test.YtbhhhkilljnkfaaGreatDoorG13
import Derived.Test.YtbhhhkilljnkfaaGreatDoorG1
import Derived.Test.YtbhhhkilljnkfaaGreatDoorG3
import Derived.Test.YtbhhhkilljnkfaaGreatDoorG12
/- The reference's way to read a number in base 128: plain. No condition. -/
namespace Go.Proofs.YtbhhhkilljnkfaaGreatDoor

/-- how many bytes go on, of so many at most -/
def hk : List UInt8 → Nat → Nat
  | [], _ => 0
  | _ :: _, 0 => 0
  | c :: s, f + 1 => if 127 < c.toNat then hk s f + 1 else 0
/-- the number of the bytes up to the k-th -/
def val : List UInt8 → Nat → Nat
  | [], _ => 0
  | c :: _, 0 => c.toNat % 128
  | c :: s, k + 1 => c.toNat % 128 + 128 * val s k
theorem hk_zero (s : List UInt8) : hk s 0 = 0 := by cases s <;> rfl
theorem hk_le (s : List UInt8) (f : Nat) : hk s f ≤ f ∧ hk s f ≤ s.length := by
  induction s generalizing f with
  | nil => simp [hk]
  | cons c s ih =>
    cases f with
    | zero => simp [hk]
    | succ f =>
      rw [hk]
      split
      · have := ih f
        simp only [List.length_cons]
        omega
      · simp
theorem hk_drop (s : List UInt8) (k f : Nat) (h : k ≤ hk s f) : hk s f = k + hk (s.drop k) (f - k) := by
  induction k generalizing s f with
  | zero => simp
  | succ k ih =>
    cases s with
    | nil => simp [hk] at h
    | cons c s =>
      cases f with
      | zero => simp [hk] at h
      | succ f =>
        rw [hk] at h ⊢
        split at h
        · rename_i hc
          rw [if_pos hc, ih s f (by omega)]
          simp only [List.drop_succ_cons]
          rw [show f + 1 - (k + 1) = f - k by omega]
          omega
        · omega
theorem lg_hk (s : List UInt8) : ∀ (j n : Nat), j ≤ 9 → lg s j n =
    if hk s (10 - j) = 10 - j then .error 5 else if hk s (10 - j) = s.length then .error 30
    else if (j + hk s (10 - j) = 9 ∧ 1 < (s.getD (hk s (10 - j)) 0).toNat) ∨ (0 < j + hk s (10 - j) ∧ (s.getD (hk s (10 - j)) 0).toNat = 0) then .error 5
    else .ok (n + val s (hk s (10 - j)) * 128 ^ j, j + hk s (10 - j) + 1) := by
  induction s with
  | nil =>
    intro j n hj
    rw [lg, if_neg (by simp [hk]; omega), if_pos (by simp [hk])]
  | cons c s ih =>
    intro j n hj
    rw [lg]
    have hf : 10 - j = (10 - (j + 1)) + 1 := by omega
    by_cases hc : 127 < c.toNat
    · have hk1 : hk (c :: s) (10 - j) = hk s (10 - (j + 1)) + 1 := by rw [hf, hk, if_pos hc]
      by_cases h9 : j = 9
      · subst h9
        rw [if_pos (by omega), if_pos]
        rw [hk1, hk_zero]
      · rw [if_neg (by omega), if_neg (by omega), ih (j + 1) _ (by omega), hk1]
        generalize hk s (10 - (j + 1)) = k
        have c1 : (k + 1 = 10 - j) ↔ (k = 10 - (j + 1)) := by omega
        have c2 : (k + 1 = (c :: s).length) ↔ (k = s.length) := by simp
        have c3 : n + c.toNat % 128 * 128 ^ j + val s k * 128 ^ (j + 1) = n + val (c :: s) (k + 1) * 128 ^ j := by
          rw [val, Nat.pow_succ, Nat.add_mul, Nat.add_assoc, Nat.mul_comm 128 (val s k), Nat.mul_assoc (val s k), Nat.mul_comm 128]
        simp only [c1, c2, List.getD_cons_succ, c3, show j + 1 + k = j + (k + 1) by omega]
    · have hk0 : hk (c :: s) (10 - j) = 0 := by rw [hf, hk, if_neg hc]
      rw [hk0]
      rw [if_neg (show ¬ 0 = 10 - j by omega), if_neg (by simp : ¬ 0 = (c :: s).length)]
      simp only [Nat.add_zero, List.getD_cons_zero]
      by_cases hb : (j = 9 ∧ 1 < c.toNat) ∨ (c.toNat = 0 ∧ 0 < j)
      · rw [if_pos hb, if_pos (by omega)]
      · rw [if_neg hb, if_pos (by omega), if_neg (by omega), val, Nat.mod_eq_of_lt (by omega)]
/-- the number at a place, as the reference reads it -/
theorem lebGet_hk (l : List UInt8) (a : Nat) : lebGet l a =
    if hk (l.drop a) 10 = 10 then .error 5 else if hk (l.drop a) 10 = l.length - a then .error 30
    else if (hk (l.drop a) 10 = 9 ∧ 1 < ((l.drop a).getD (hk (l.drop a) 10) 0).toNat) ∨ (0 < hk (l.drop a) 10 ∧ ((l.drop a).getD (hk (l.drop a) 10) 0).toNat = 0) then .error 5
    else .ok (val (l.drop a) (hk (l.drop a) 10), a + (hk (l.drop a) 10 + 1)) := by
  unfold lebGet
  rw [lg_hk _ 0 0 (by omega)]
  simp only [Nat.sub_zero, List.length_drop, Nat.zero_add, Nat.pow_zero, Nat.mul_one]
  generalize hk (l.drop a) 10 = k
  by_cases h1 : k = 10
  · rw [if_pos h1, if_pos h1]
  rw [if_neg h1, if_neg h1]
  by_cases h2 : k = l.length - a
  · rw [if_pos h2, if_pos h2]
  rw [if_neg h2, if_neg h2]
  by_cases h3 : (k = 9 ∧ 1 < ((l.drop a).getD k 0).toNat) ∨ (0 < k ∧ ((l.drop a).getD k 0).toNat = 0)
  · rw [if_pos h3, if_pos h3]
  · rw [if_neg h3, if_neg h3]
theorem val_lt (s : List UInt8) : ∀ k, val s k < 128 ^ (k + 1) := by
  induction s with
  | nil => intro k; rw [val]; exact Nat.pow_pos (by omega)
  | cons c s ih =>
    intro k
    cases k with
    | zero => rw [val]; have := Nat.mod_lt c.toNat (show 0 < 128 by omega); omega
    | succ k =>
      rw [val, Nat.pow_succ]
      have := ih k
      have := Nat.mod_lt c.toNat (show 0 < 128 by omega)
      generalize 128 ^ (k + 1) = p at *
      omega
theorem val_drop (s : List UInt8) (j k : Nat) (hj : j < s.length) (hk : j < k) : val (s.drop j) (k - j) = (s.getD j 0).toNat % 128 + 128 * val (s.drop (j + 1)) (k - (j + 1)) := by
  rw [List.drop_eq_getElem_cons hj, show k - j = (k - (j + 1)) + 1 by omega, val]
  simp [List.getD_eq_getElem?_getD, hj]
theorem val_last (s : List UInt8) (k : Nat) (h : k < s.length) : val (s.drop k) 0 = (s.getD k 0).toNat % 128 := by
  rw [List.drop_eq_getElem_cons h, val]
  simp [List.getD_eq_getElem?_getD, h]
end Go.Proofs.YtbhhhkilljnkfaaGreatDoor
/- The walk of the reference's Get of leb. Condition: the bytes read; the place is none beyond their end. -/
namespace Go.Proofs.YtbhhhkilljnkfaaGreatDoor
open Go.RowKit
set_option linter.unusedVariables false
set_option linter.unusedSimpArgs false

theorem val_mono (s : List UInt8) (K : Nat) (hK : K < s.length) : ∀ j, j ≤ K → val (s.drop j) (K - j) ≤ val s K
  | 0, _ => by simp
  | j + 1, h => by
    have h1 := val_mono s K hK j (by omega)
    rw [val_drop s j K (by omega) (by omega)] at h1
    omega
/-- what the loop has read, from the j-th byte on -/
def valFrom (s : List UInt8) (K j : Nat) : Nat := if K < j then 0 else val (s.drop j) (K - j)
theorem valFrom_step (s : List UInt8) (K j : Nat) (hK : K < s.length) (hj : j ≤ K) : valFrom s K (j + 1) * 128 + (s.getD j 0).toNat % 128 = valFrom s K j := by
  unfold valFrom
  rw [if_neg (show ¬ K < j by omega)]
  by_cases h : j = K
  · subst h
    rw [if_pos (by omega), Nat.sub_self, val_last s j hK]
    omega
  · rw [if_neg (by omega), val_drop s j K (by omega) (by omega)]
    omega
theorem valFrom_le (s : List UInt8) (K j : Nat) (hK : K < s.length) : valFrom s K j ≤ val s K := by
  unfold valFrom
  split
  · omega
  · exact val_mono s K hK j (by omega)

set_option maxRecDepth 20000 in
set_option maxHeartbeats 2000000 in
theorem ref3Get_calls (A : Option Addr) (c : Nat) (l : List UInt8) (a : Nat) (w : World) (hl : l.length ≤ 140737488355328) (hr : Reads w A l) (ha : a ≤ l.length) :
    Calls Tryz.prog 54 #[.slice A l.length c, .int .i64 (a : Int)] w fun e w' => e = .returned (getOut (lebGet l a)) ∧ w = w' := by
  by_cases hend : a = l.length
  · have e0 : lebGet l a = .error 30 := by unfold lebGet; rw [hend, List.drop_length, lg]
    rw [e0]
    clear e0 hr
    have hge : ¬ (a : Int) < (l.length : Int) := by omega
    have hle : (l.length : Int) ≤ (a : Int) := by omega
    generalize l.length = L at *
    go_enter Tryz.func54, Tryz.ntmps54
    go_wp2
    go_ret3
    exact ⟨rfl, rfl⟩
  have hlt : a < l.length := by omega
  obtain ⟨ad, rfl, _⟩ := hr.out a hlt
  obtain ⟨s, hs⟩ : ∃ s, s = l.drop a := ⟨_, rfl⟩
  have hsl : s.length = l.length - a := by rw [hs, List.length_drop]
  have hcell : ∀ j, j < s.length → w.cell? (ad.add (a + j)) = some (.int .u8 (((s.getD j 0).toNat : Nat) : Int)) := fun j hj => by
    obtain ⟨ad', e, hc⟩ := hr.out (a + j) (by omega)
    cases e
    have hal : a + j < l.length := by omega
    have e2 : s.getD j 0 = l[a + j]'hal := by simp [hs, List.getD_eq_getElem?_getD, hal]
    rw [hc, e2]
  obtain ⟨K, hK⟩ : ∃ K, K = hk s 10 := ⟨_, rfl⟩
  have hKle := hk_le s 10
  rw [← hK] at hKle
  obtain ⟨R, hR⟩ : ∃ R, R = lebGet l a := ⟨_, rfl⟩
  have hRn : ∀ n k, R = .ok (n, k) → n < 18446744073709551616 := fun n k h => lebGet_num (by rw [← hR, h])
  rw [← hR]
  rw [lebGet_hk, ← hs, ← hK, ← hsl] at hR
  have hhi : ∀ j, j < K → 127 < (s.getD j 0).toNat := fun j hj => by
    have h1 := hk_drop s j 10 (by omega)
    rw [← hK] at h1
    have h2 : 0 < hk (s.drop j) (10 - j) := by omega
    have hjs : j < s.length := by omega
    rw [List.drop_eq_getElem_cons hjs, show 10 - j = (10 - (j + 1)) + 1 by omega, hk] at h2
    split at h2
    · simpa [List.getD_eq_getElem?_getD, hjs] using by assumption
    · omega
  have hlo : K < 10 → K < s.length → ¬ 127 < (s.getD K 0).toNat := fun h10 hKs => by
    have h1 := hk_drop s K 10 (by omega)
    rw [← hK] at h1
    have h2 : hk (s.drop K) (10 - K) = 0 := by omega
    rw [List.drop_eq_getElem_cons hKs, show 10 - K = (10 - (K + 1)) + 1 by omega, hk] at h2
    split at h2
    · omega
    · rename_i h3
      simpa [List.getD_eq_getElem?_getD, hKs] using h3
  obtain ⟨S, hS⟩ : ∃ S, S = s.length := ⟨_, rfl⟩
  have hSL : l.length = a + S := by omega
  rw [hSL] at hl hlt ⊢
  rw [← hS] at hR hKle
  have HCELL := Lib.hid hcell
  have HHI := Lib.hid hhi
  have HLO := Lib.hid hlo
  have HS := Lib.hid hS
  have HR := Lib.hid hR
  have HRN := Lib.hid hRn
  clear hcell hhi hlo hS hR hRn hSL hsl hr hend hs hK
  obtain ⟨L, hL⟩ : ∃ L, L = a + S := ⟨_, rfl⟩
  rw [← hL] at hl hlt ⊢
  have hLS : IntKind.i64.wrap ((L : Int) - (a : Int)) = (S : Int) := by rw [IntWalk.i64_in _ (by omega)]; omega
  have haL : ¬ (L : Int) ≤ (a : Int) := by omega
  have HL := Lib.hid hL
  clear hL ha
  go_enter Tryz.func54, Tryz.ntmps54
  go_wp2_with fail
  go_loopw [7] (fun i wr => ∃ k : Nat, k ≤ K ∧ i = .int .i64 (k : Int) ∧ wr = w) (fun i _ => K - (intOf i).toNat)
  case atStart => exact ⟨0, by omega, rfl, rfl⟩
  case round =>
    obtain ⟨k, hk, rfl, rfl⟩ := hrel
    by_cases hkK : k < K
    · have h127 := HHI.out k hkK
      have hck := HCELL.out k (by rw [← HS.out]; omega)
      generalize (s.getD k 0).toNat = x at hck h127
      have hx : (127 : Int) < (x : Int) := by omega
      obtain ⟨p, hp⟩ : ∃ p, p = a + k := ⟨_, rfl⟩
      rw [← hp] at hck
      have hpL : p < L := by have := HL.out; omega
      have hpw : IntKind.i64.wrap ((a : Int) + (k : Int)) = (p : Int) := by rw [IntWalk.i64_in _ (by omega)]; omega
      have hk10 : k < 10 := by omega
      have hkS : k < S := by omega
      clear hp
      go_wp2
      exact ⟨⟨k + 1, by omega, by go_num, trivial⟩, by simp [intOf]; omega⟩
    · obtain rfl : k = K := by omega
      by_cases h10 : k = 10
      · have HQ := Lib.hid (HR.out.trans (if_pos h10))
        clear HR
        subst h10
        go_wp2
        go_ret3
        exact ⟨by rw [HQ.out]; rfl, rfl⟩
      have HR1 := HR.out.trans (if_neg h10)
      clear HR
      have hk10 : k < 10 := by omega
      by_cases hkS : k = S
      · have HQ := Lib.hid (HR1.trans (if_pos hkS))
        clear HR1
        subst hkS
        go_wp2
        go_ret3
        exact ⟨by rw [HQ.out]; rfl, rfl⟩
      have HR2 := HR1.trans (if_neg hkS)
      clear HR1
      have hkS' : k < S := by omega
      have hx := HLO.out hk10 (by rw [← HS.out]; omega)
      have hck := HCELL.out k (by rw [← HS.out]; omega)
      have hxx : ∃ x, x = (s.getD k 0).toNat := ⟨_, rfl⟩
      obtain ⟨x, hxe⟩ := hxx
      rw [← hxe] at hx hck HR2
      have hxi : ¬ (127 : Int) < (x : Int) := by omega
      obtain ⟨p, hp⟩ : ∃ p, p = a + k := ⟨_, rfl⟩
      rw [← hp] at hck
      have hpL : p < L := by have := HL.out; omega
      have hpw : IntKind.i64.wrap ((a : Int) + (k : Int)) = (p : Int) := by rw [IntWalk.i64_in _ (by omega)]; omega
      have HXE := Lib.hid hxe
      have HP := Lib.hid hp
      clear hxe hp
      by_cases h3 : (k = 9 ∧ 1 < x) ∨ (0 < k ∧ x = 0)
      · have HQ := Lib.hid (HR2.trans (if_pos h3))
        clear HR2
        rcases h3 with ⟨h9, h1⟩ | ⟨h0, h1⟩
        · have hp9 : p = a + 9 := by have := HP.out; omega
          subst h9
          have hpw9 : IntKind.i64.wrap ((a : Int) + 9) = (p : Int) := hpw
          have hx1 : (1 : Int) < (x : Int) := by omega
          clear hp9
          go_wp2
          go_ret3
          exact ⟨by rw [HQ.out]; rfl, rfl⟩
        · subst h1
          have hk0 : (0 : Int) < (k : Int) := by omega
          by_cases h9 : k = 9
          · subst h9
            have hpw9 : IntKind.i64.wrap ((a : Int) + 9) = (p : Int) := hpw
            go_wp2
            go_ret3
            exact ⟨by rw [HQ.out]; rfl, rfl⟩
          · have hk9 : ¬ (k : Int) = 9 := by omega
            go_wp2
            go_ret3
            exact ⟨by rw [HQ.out]; rfl, rfl⟩
      · have HQ := Lib.hid (HR2.trans (if_neg h3))
        clear HR2
        have hKs : k < s.length := by rw [← HS.out]; omega
        have h19 : ¬ (k = 9 ∧ 1 < x) := fun h => h3 (Or.inl h)
        have h00 : ¬ (0 < k ∧ x = 0) := fun h => h3 (Or.inr h)
        have hcs : (k = 9 ∧ ¬ 1 < x ∧ ¬ x = 0) ∨ (¬ k = 9 ∧ 0 < k ∧ ¬ x = 0) ∨ k = 0 := by omega
        have hvl : ∀ j, valFrom s k j < 18446744073709551616 := fun j => Nat.lt_of_le_of_lt (valFrom_le s k j hKs) (HRN.out _ _ HQ.out)
        have HVL := Lib.hid hvl
        have HKS := Lib.hid hKs
        have hpe : p = a + k := HP.out
        have hpw1 : IntKind.i64.wrap ((p : Int) + 1) = ((p + 1 : Nat) : Int) := by rw [IntWalk.i64_in _ (by omega)]; omega
        have HPE := Lib.hid hpe
        clear hvl hKs h3 h19 h00 hpe HP
        rcases hcs with ⟨h9, h1, h0⟩ | ⟨h9, h0, h1⟩ | h0
        · have hxi1 : ¬ (1 : Int) < (x : Int) := by omega
          have hxi0 : ¬ (x : Int) = 0 := by omega
          subst h9
          have hpw9 : IntKind.i64.wrap ((a : Int) + 9) = (p : Int) := hpw
          clear h1 h0
          go_wp2_with fail
          go_loopw [8, 9] (fun n i wr' => ∃ j : Nat, j ≤ 9 + 1 ∧ n = .int .u64 ((valFrom s 9 j : Nat) : Int) ∧ i = .int .i64 ((j : Int) - 1) ∧ wr' = wr) (fun n i _ => (intOf i + 1).toNat)
          case atStart => exact ⟨9 + 1, by omega, by unfold valFrom; rw [if_pos (by omega)]; rfl, rfl, rfl⟩
          case round =>
            obtain ⟨j, hj, rfl, rfl, rfl⟩ := hrel
            obtain ⟨v, hv⟩ : ∃ v, v = valFrom s 9 j := ⟨_, rfl⟩
            rw [← hv]
            by_cases hj0 : j = 0
            · have HV := Lib.hid hv
              clear hv
              subst hj0
              have hv0 : v = val s 9 := by rw [HV.out]; unfold valFrom; rw [if_neg (by omega)]; rfl
              have HV0 := Lib.hid hv0
              clear hv0
              go_wp2
              go_ret3
              exact ⟨by rw [HQ.out, ← HV0.out, show a + (9 + 1) = p + 1 by have := HPE.out; omega]; rfl, rfl⟩
            · obtain ⟨m, rfl⟩ : ∃ m, j = m + 1 := ⟨j - 1, by omega⟩
              rw [show ((m + 1 : Nat) : Int) - 1 = (m : Int) by omega]
              have hst := valFrom_step s 9 m HKS.out (by omega)
              rw [← hv] at hst
              have hmS : m < s.length := by have := HKS.out; omega
              have hcm := HCELL.out m hmS
              obtain ⟨y, hy⟩ : ∃ y, y = (s.getD m 0).toNat := ⟨_, rfl⟩
              rw [← hy] at hcm hst
              have hyl : y < 256 := by rw [hy]; exact (s.getD m 0).toNat_lt
              have hvn := HVL.out m
              obtain ⟨q, hq⟩ : ∃ q, q = a + m := ⟨_, rfl⟩
              rw [← hq] at hcm
              have hqL : q < L := by have := HL.out; have := HS.out; omega
              have hqw : IntKind.i64.wrap ((a : Int) + (m : Int)) = (q : Int) := by rw [IntWalk.i64_in _ (by omega)]; omega
              have HST := Lib.hid hst
              have HVN := Lib.hid hvn
              clear hst hvn hv hy hq hmS
              go_wp2
              have hw1 : IntKind.u64.wrap ((v : Int) * 128) = (v : Int) * 128 := IntWalk.u64_in _ (by have := HST.out; have := HVN.out; omega)
              have hw2 : IntKind.u64.wrap ((v : Int) * 128 + (y : Int) % 128) = ((v * 128 + y % 128 : Nat) : Int) := by rw [IntWalk.u64_in _ (by have := HST.out; have := HVN.out; omega)]; omega
              exact ⟨⟨m, by omega, by rw [hw1, hw2, HST.out], rfl, trivial⟩, by simp [intOf]⟩
        · have hki : ¬ (k : Int) = 9 := by omega
          have hk0 : (0 : Int) < (k : Int) := by omega
          have hxi0 : ¬ (x : Int) = 0 := by omega
          clear h1
          go_wp2_with fail
          go_loopw [8, 9] (fun n i wr' => ∃ j : Nat, j ≤ k + 1 ∧ n = .int .u64 ((valFrom s k j : Nat) : Int) ∧ i = .int .i64 ((j : Int) - 1) ∧ wr' = wr) (fun n i _ => (intOf i + 1).toNat)
          case atStart => exact ⟨k + 1, by omega, by unfold valFrom; rw [if_pos (by omega)]; rfl, by congr 1; omega, rfl⟩
          case round =>
            obtain ⟨j, hj, rfl, rfl, rfl⟩ := hrel
            obtain ⟨v, hv⟩ : ∃ v, v = valFrom s k j := ⟨_, rfl⟩
            rw [← hv]
            by_cases hj0 : j = 0
            · have HV := Lib.hid hv
              clear hv
              subst hj0
              have hv0 : v = val s k := by rw [HV.out]; unfold valFrom; rw [if_neg (by omega)]; rfl
              have HV0 := Lib.hid hv0
              clear hv0
              go_wp2
              go_ret3
              exact ⟨by rw [HQ.out, ← HV0.out, show a + (k + 1) = p + 1 by have := HPE.out; omega]; rfl, rfl⟩
            · obtain ⟨m, rfl⟩ : ∃ m, j = m + 1 := ⟨j - 1, by omega⟩
              rw [show ((m + 1 : Nat) : Int) - 1 = (m : Int) by omega]
              have hst := valFrom_step s k m HKS.out (by omega)
              rw [← hv] at hst
              have hmS : m < s.length := by have := HKS.out; omega
              have hcm := HCELL.out m hmS
              obtain ⟨y, hy⟩ : ∃ y, y = (s.getD m 0).toNat := ⟨_, rfl⟩
              rw [← hy] at hcm hst
              have hyl : y < 256 := by rw [hy]; exact (s.getD m 0).toNat_lt
              have hvn := HVL.out m
              obtain ⟨q, hq⟩ : ∃ q, q = a + m := ⟨_, rfl⟩
              rw [← hq] at hcm
              have hqL : q < L := by have := HL.out; have := HS.out; omega
              have hqw : IntKind.i64.wrap ((a : Int) + (m : Int)) = (q : Int) := by rw [IntWalk.i64_in _ (by omega)]; omega
              have HST := Lib.hid hst
              have HVN := Lib.hid hvn
              clear hst hvn hv hy hq hmS
              go_wp2
              have hw1 : IntKind.u64.wrap ((v : Int) * 128) = (v : Int) * 128 := IntWalk.u64_in _ (by have := HST.out; have := HVN.out; omega)
              have hw2 : IntKind.u64.wrap ((v : Int) * 128 + (y : Int) % 128) = ((v * 128 + y % 128 : Nat) : Int) := by rw [IntWalk.u64_in _ (by have := HST.out; have := HVN.out; omega)]; omega
              exact ⟨⟨m, by omega, by rw [hw1, hw2, HST.out], rfl, trivial⟩, by simp [intOf]⟩
        · have hki : ¬ (k : Int) = 9 := by omega
          have hk0 : ¬ (0 : Int) < (k : Int) := by omega
          have H0 := Lib.hid h0
          clear h0
          go_wp2_with fail
          go_loopw [8, 9] (fun n i wr' => ∃ j : Nat, j ≤ k + 1 ∧ n = .int .u64 ((valFrom s k j : Nat) : Int) ∧ i = .int .i64 ((j : Int) - 1) ∧ wr' = wr) (fun n i _ => (intOf i + 1).toNat)
          case atStart => exact ⟨k + 1, by omega, by unfold valFrom; rw [if_pos (by omega)]; rfl, by congr 1; omega, rfl⟩
          case round =>
            obtain ⟨j, hj, rfl, rfl, rfl⟩ := hrel
            obtain ⟨v, hv⟩ : ∃ v, v = valFrom s k j := ⟨_, rfl⟩
            rw [← hv]
            by_cases hj0 : j = 0
            · have HV := Lib.hid hv
              clear hv
              subst hj0
              have hv0 : v = val s k := by rw [HV.out]; unfold valFrom; rw [if_neg (by omega)]; rfl
              have HV0 := Lib.hid hv0
              clear hv0
              go_wp2
              go_ret3
              exact ⟨by rw [HQ.out, ← HV0.out, show a + (k + 1) = p + 1 by have := HPE.out; omega]; rfl, rfl⟩
            · obtain ⟨m, rfl⟩ : ∃ m, j = m + 1 := ⟨j - 1, by omega⟩
              rw [show ((m + 1 : Nat) : Int) - 1 = (m : Int) by omega]
              have hst := valFrom_step s k m HKS.out (by omega)
              rw [← hv] at hst
              have hmS : m < s.length := by have := HKS.out; omega
              have hcm := HCELL.out m hmS
              obtain ⟨y, hy⟩ : ∃ y, y = (s.getD m 0).toNat := ⟨_, rfl⟩
              rw [← hy] at hcm hst
              have hyl : y < 256 := by rw [hy]; exact (s.getD m 0).toNat_lt
              have hvn := HVL.out m
              obtain ⟨q, hq⟩ : ∃ q, q = a + m := ⟨_, rfl⟩
              rw [← hq] at hcm
              have hqL : q < L := by have := HL.out; have := HS.out; omega
              have hqw : IntKind.i64.wrap ((a : Int) + (m : Int)) = (q : Int) := by rw [IntWalk.i64_in _ (by omega)]; omega
              have HST := Lib.hid hst
              have HVN := Lib.hid hvn
              clear hst hvn hv hy hq hmS
              go_wp2
              have hw1 : IntKind.u64.wrap ((v : Int) * 128) = (v : Int) * 128 := IntWalk.u64_in _ (by have := HST.out; have := HVN.out; omega)
              have hw2 : IntKind.u64.wrap ((v : Int) * 128 + (y : Int) % 128) = ((v * 128 + y % 128 : Nat) : Int) := by rw [IntWalk.u64_in _ (by have := HST.out; have := HVN.out; omega)]; omega
              exact ⟨⟨m, by omega, by rw [hw1, hw2, HST.out], rfl, trivial⟩, by simp [intOf]⟩
end Go.Proofs.YtbhhhkilljnkfaaGreatDoor
/- The walk of the reference's some: so many numbers, each below its limit. Condition: the slices read, the limits are small. -/
namespace Go.Proofs.YtbhhhkilljnkfaaGreatDoor
open Go.RowKit Go.BigFrame
set_option linter.unusedVariables false
set_option linter.unusedSimpArgs false

/-- so many numbers, each below its limit -/
def someGo (l : List UInt8) : List Nat → Nat → List Nat → Option (List Nat × Nat)
  | [], a, acc => some (acc, a)
  | m :: ms, a, acc =>
    match lebGet l a with
    | .error _ => none
    | .ok (n, k) => if m ≤ n then none else someGo l ms k (acc ++ [n])
theorem someGo_cons (l : List UInt8) (m : Nat) (ms : List Nat) (a : Nat) (acc : List Nat) :
    someGo l (m :: ms) a acc = if (rnum l m (a, false)).2.2 = true then none else someGo l ms (rnum l m (a, false)).2.1 (acc ++ [(rnum l m (a, false)).1.toNat]) := by
  rw [someGo]
  unfold rnum
  cases lebGet l a with
  | error e => simp
  | ok r =>
    obtain ⟨n, k⟩ := r
    by_cases h : m ≤ n
    · simp [h]
    · simp [h]
def SomePost (w : World) (r : Option (List Nat × Nat)) (e : Ending) (w' : World) : Prop :=
  match r with
  | none => e = .returned (.tuple #[.slice none 0 0, .int .i64 0, .bool false]) ∧ Keeps w w'
  | some (vs, k) => ∃ A c, e = .returned (.tuple #[.slice A vs.length c, .int .i64 (k : Int), .bool true]) ∧ RowAt w' A (n64s vs) ∧ vs.length ≤ c ∧ Keeps w w'
theorem info_i64b : (Tryz.prog.info? 2).map (fun i => (i.zero, i.size, i.bytes)) = some (some (.int .i64 0), 1, 8) := by kernel_rfl
theorem n64s_snoc (l : List Nat) (n : Nat) : n64s (l ++ [n]) = n64s l ++ [.int .i64 (n : Int)] := by simp [n64s]
theorem n64s_len (l : List Nat) : (n64s l).length = l.length := by simp [n64s]
theorem n64s_one (l : List Nat) : ∀ u ∈ n64s l, u.oneCell' = true := by
  intro u hu
  simp only [n64s, List.mem_map] at hu
  obtain ⟨q, _, rfl⟩ := hu
  rfl

set_option maxRecDepth 20000 in
set_option maxHeartbeats 2000000 in
theorem refSome_calls (A : Option Addr) (c : Nat) (l : List UInt8) (a : Nat) (B : Option Addr) (d : Nat) (ms : List Nat) (w : World) (hl : l.length ≤ 140737488355328) (hr : Reads w A l) (ha : a ≤ l.length) (hm : ms.length ≤ 100000) (hms : ∀ m ∈ ms, m ≤ 4611686018427387904) (hrb : RowAt w B (n64s ms)) :
    Calls Tryz.prog 28 #[.slice A l.length c, .int .i64 (a : Int), .slice B ms.length d] w (SomePost w (someGo l ms a [])) := by
  have hg := fun (w2 : World) (a : Nat) (hk : Keeps w w2) (h : a ≤ l.length) => ref3Get_calls A c l a w2 hl (hr.below hk.below) h
  obtain ⟨R, hR⟩ : ∃ R, R = someGo l ms a [] := ⟨_, rfl⟩
  rw [← hR]
  have HG := Lib.hid hg
  have HR := Lib.hid hR
  have HMS := Lib.hid hms
  have HRB := Lib.hid hrb
  clear hg hR hms hrb hr
  generalize hLL : l.length = L at *
  have HL := Lib.hid hLL
  clear hLL
  generalize hNN : ms.length = N at *
  have HN := Lib.hid hNN
  clear hNN
  go_enter Tryz.func28, Tryz.ntmps28
  go_wp2_with fail
  go_loopw [1, 9, 10] (fun at_ b i wr => ∃ (j a : Nat) (acc : List Nat) (A' : Option Addr) (M c' : Nat), j ≤ N ∧ i = .int .i64 (j : Int) ∧ at_ = .int .i64 (a : Int) ∧ b = .slice A' M c' ∧ a ≤ L ∧ acc.length = j ∧ R = someGo l (ms.drop j) a acc ∧ wr.ownsRow w.heap.size 2 1 (.slice A' M c') j (n64s acc) ∧ Keeps w wr) (fun _ _ i _ => N - (intOf i).toNat)
  case atStart => exact ⟨0, a, [], none, 0, 0, Nat.zero_le _, rfl, rfl, rfl, ha, rfl, HR.out, World.ownsRow_nil _ _ _ _, Keeps.refl _⟩
  case round =>
    clear HR ha
    obtain ⟨j, a, acc, A', M, c', hj, rfl, rfl, rfl, ha, hacc, hres, hown, hk⟩ := hrel
    have HO := Lib.hid hown
    have HK := Lib.hid hk
    have HACC := Lib.hid hacc
    clear hown hacc
    by_cases hlt : j < N
    · have hlt1 : j < ms.length := by rw [HN.out]; exact hlt
      obtain ⟨ad, rfl, hcell⟩ := row_n64 (HRB.out.below hk.below) j hlt1
      have hm2 := HMS.out _ (List.getElem_mem hlt1)
      rw [List.drop_eq_getElem_cons hlt1, someGo] at hres
      generalize ms[j]'hlt1 = m at *
      have hmw : IntKind.u64.wrap (m : Int) = (m : Int) := IntWalk.u64_in _ (by omega)
      have hc := HG.out wr a hk ha
      clear hk hlt1
      cases hget : lebGet l a with
      | error er =>
        rw [hget] at hc hres
        have HC := Lib.hid hc
        have HRES := Lib.hid hres
        have qe : (er != 0) = true := by simpa using lebGet_err hget
        clear hc hres hget
        go_wp2_with fail
        refine HC.out.mono ?_
        rintro e w1 ⟨rfl, rfl⟩
        simp only [getOut]
        go_wp2
        go_ret3
        rw [HRES.out]
        exact ⟨rfl, HK.out⟩
      | ok r =>
        obtain ⟨n, k⟩ := r
        rw [hget] at hc hres
        simp only at hres
        have hn64 := lebGet_num hget
        have hkL : k ≤ L := by rw [← HL.out]; exact lebGet_le (by rw [HL.out]; exact ha) hget
        have HC := Lib.hid hc
        clear hc hget
        by_cases hmn : m ≤ n
        · rw [if_pos hmn] at hres
          have HRES := Lib.hid hres
          have qm : decide ((m : Int) ≤ (n : Int)) = true := by rw [decide_eq_true_eq]; omega
          have qm2 : decide (m ≤ n) = true := by rw [decide_eq_true_eq]; omega
          clear hres
          go_wp2_with fail
          refine HC.out.mono ?_
          rintro e w1 ⟨rfl, rfl⟩
          simp only [getOut]
          go_wp2
          go_ret3
          rw [HRES.out]
          exact ⟨rfl, HK.out⟩
        · rw [if_neg hmn] at hres
          have HRES := Lib.hid hres
          have qm : decide ((m : Int) ≤ (n : Int)) = false := by rw [decide_eq_false_iff_not]; omega
          have qm2 : decide (m ≤ n) = false := by rw [decide_eq_false_iff_not]; omega
          have hnw : IntKind.i64.wrap (n : Int) = (n : Int) := IntWalk.i64_in _ (by omega)
          obtain ⟨W2, hW2⟩ : ∃ W2, W2 = wr.alloc (.cells #[.int .i64 (n : Int)] 2) := ⟨_, rfl⟩
          have hk2 : Keeps wr W2 := by rw [hW2]; exact (Keeps.refl wr).alloc _
          have hb2 : W2.heap[wr.heap.size]? = some (.cells #[.int .i64 (n : Int)] 2) := by rw [hW2]; exact obj_new wr _
          have HROW := Lib.hid (n64_one hb2)
          have HO2 := Lib.hid ((Touch.of_below (F := fun _ => False) hk2.below fun k hk h => absurd hk (by omega)).own HO.out fun _ _ h => h)
          have HK2 := Lib.hid (HK.out.trans hk2)
          have HW2 := Lib.hid hW2
          clear hres hmn hk2 hb2 hW2
          go_wp2_with fail
          refine HC.out.mono ?_
          rintro e w1 ⟨rfl, rfl⟩
          simp only [getOut]
          go_wp2_with (at_builtin; rw [← HW2.out]; refine wpList_append_row (w0 := w) w.heap.size rfl _ _ 57 2 (.int .i64 0) 1 8 rfl Tryz.underlying57 info_i64b rfl (by omega) (.slice A' M c') j (n64s acc) rfl HO2.out (some ⟨wr.heap.size, 0, none⟩) 1 1 (n64s [n]) rfl rfl HROW.out (n64s_one _) (by simp only [maxLen]; omega) (by omega) HK2.out.size HK2.out ?_)
          intro v3 w3 hown3 hb3 _ _
          rw [← show n64s (acc ++ [n]) = n64s acc ++ n64s [n] by simp [n64s]] at hown3
          obtain ⟨A3, M3, c3, rfl⟩ : ∃ A3 M3 c3, v3 = .slice A3 M3 c3 := by
            rcases hown3.2 with ⟨h, _⟩ | ⟨g, cap, cur, h, _⟩
            · exact ⟨_, _, _, h⟩
            · exact ⟨_, _, _, h⟩
          have HO3 := Lib.hid hown3
          have HK3 : Hid (Keeps w w3) := Lib.hid hb3
          clear hown3 hb3
          go_wp2
          exact ⟨⟨j + 1, k, acc ++ [n], A3, M3, c3, by omega, by go_num, rfl, rfl, hkL, by rw [List.length_append, HACC.out]; rfl, HRES.out, HO3.out, HK3.out⟩, by simp [intOf]; omega⟩
    · obtain rfl : j = N := by omega
      rw [List.drop_eq_nil_of_le (by rw [HN.out]; omega), someGo] at hres
      have HRES := Lib.hid hres
      clear hres hk
      have hrow := RowAt.own HO.out
      have hMc : M = j ∧ M ≤ c' := by
        rcases HO.out.2 with ⟨h, h0⟩ | ⟨g, cap, cur, h, _, _, hc, _⟩
        · injection h with h1 h2 h3
          exact ⟨by omega, by omega⟩
        · injection h with h1 h2 h3
          exact ⟨by omega, by omega⟩
      obtain ⟨rfl, hMc⟩ := hMc
      have HROW := Lib.hid hrow
      clear hrow
      go_wp2
      go_ret3
      rw [HRES.out]
      exact ⟨A', c', by rw [HACC.out]; rfl, HROW.out, by rw [HACC.out]; exact hMc, HK.out⟩
end Go.Proofs.YtbhhhkilljnkfaaGreatDoor
/- The walk of the reference's text of a schema's bytes. Condition: the bytes read, the row has room for them. -/
namespace Go.Proofs.YtbhhhkilljnkfaaGreatDoor
open Go.RowKit Go.BigFrame
set_option linter.unusedVariables false
set_option linter.unusedSimpArgs false

def textOut : Except Int (List UInt8 × Nat) → Value
  | .error e => .tuple #[.string ⟨#[]⟩, .int .i64 0, .int .i64 e]
  | .ok (t, k) => .tuple #[.string (str t), .int .i64 (k : Int), .int .i64 0]

set_option maxRecDepth 10000 in
set_option maxHeartbeats 1000000 in
theorem refText_calls (A : Option Addr) (c : Nat) (l : List UInt8) (a most : Nat) (long : Int) (w : World) (hl : l.length ≤ 140737488355328) (hcap : l.length ≤ c) (hr : Reads w A l) (ha : a ≤ l.length) (hm : most ≤ 1024) :
    Calls Tryz.prog 69 #[.slice A l.length c, .int .i64 (a : Int), .int .i64 (most : Int), .int .i64 long] w fun e w' => e = .returned (textOut (rText most long l a)) ∧ Keeps w w' := by
  have hc := ref3Get_calls A c l a w hl hr ha
  have hmw : IntKind.u64.wrap (most : Int) = (most : Int) := IntWalk.u64_in _ (by omega)
  cases hg : lebGet l a with
  | error e1 =>
    have he := lebGet_err hg
    have e0 : rText most long l a = .error e1 := by unfold rText; rw [hg]
    rw [e0]
    rw [hg] at hc
    have q : (e1 != 0) = true := by simpa using he
    have HC := Lib.hid hc
    clear hc e0 hg he hr
    generalize l.length = L at *
    go_enter Tryz.func69, Tryz.ntmps69
    go_wp2_with fail
    refine HC.out.mono ?_
    rintro e w1 ⟨rfl, rfl⟩
    simp only [getOut]
    go_wp2
    go_ret3
    exact ⟨rfl, Keeps.refl _⟩
  | ok r =>
    obtain ⟨n, k1⟩ := r
    have hn64 := lebGet_num hg
    rw [hg] at hc
    have HC := Lib.hid hc
    by_cases h1 : n ≤ most
    · by_cases h2 : n ≤ l.length - k1
      · have e0 : rText most long l a = .ok ((l.drop k1).take n, k1 + n) := by unfold rText; rw [hg]; simp only; rw [if_pos h1, if_pos h2]
        rw [e0]
        have hk1 := lebGet_le ha hg
        have q1 : ¬ (most : Int) < (n : Int) := by omega
        have e1 : IntKind.i64.wrap (n : Int) = (n : Int) := IntWalk.i64_in _ (by omega)
        have e2 : IntKind.i64.wrap ((l.length : Int) - (k1 : Int)) = ((l.length - k1 : Nat) : Int) := by rw [IntWalk.i64_in _ (by omega)]; omega
        have q2 : ¬ ((l.length - k1 : Nat) : Int) < (n : Int) := by omega
        have e3 : IntKind.i64.wrap ((k1 : Int) + (n : Int)) = ((k1 + n : Nat) : Int) := by rw [IntWalk.i64_in _ (by omega)]; omega
        obtain ⟨Z, hif⟩ : ∃ Z, (if c = k1 then A else Option.map (fun x => x.add k1) A) = Z := ⟨_, rfl⟩
        have hz : Reads w Z ((l.drop k1).take n) := by
          refine Reads.take (hr.drop_any k1 Z fun hlt ad e => ?_) n
          rw [← hif, if_neg (by omega), e]; rfl
        have hconv : (convert 25 9 (.slice Z n (c - k1))).run Tryz.prog w = .ok (.string (str ((l.drop k1).take n))) w := by
          have := hz.conv (P := Tryz.prog) 25 9 5 Tryz.underlying25 Tryz.underlying5 Tryz.underlying9 (c - k1)
          rw [show ((l.drop k1).take n).length = n by rw [List.length_take, List.length_drop]; omega] at this
          exact this
        generalize hTT : str ((l.drop k1).take n) = T at hconv
        have HCV := Lib.hid hconv
        clear hconv
        have HTT := Lib.hid hTT
        have hkn : k1 + n ≤ l.length := by omega
        clear hc e0 hg hr hz hTT
        generalize l.length = L at *
        go_enter Tryz.func69, Tryz.ntmps69
        go_wp2_with fail
        refine HC.out.mono ?_
        rintro e w1 ⟨rfl, rfl⟩
        simp only [getOut]
        go_wp2_with fail
        rw [HCV.out]
        simp only [Result.andThen]
        rw [Oper.upon_value]
        go_wp2
        go_ret3
        exact ⟨by rw [← HTT.out]; rfl, Keeps.refl _⟩
      · have e0 : rText most long l a = .error 30 := by unfold rText; rw [hg]; simp only; rw [if_pos h1, if_neg h2]
        rw [e0]
        have hk1 := lebGet_le ha hg
        have q1 : ¬ (most : Int) < (n : Int) := by omega
        have e1 : IntKind.i64.wrap (n : Int) = (n : Int) := IntWalk.i64_in _ (by omega)
        have e2 : IntKind.i64.wrap ((l.length : Int) - (k1 : Int)) = ((l.length - k1 : Nat) : Int) := by rw [IntWalk.i64_in _ (by omega)]; omega
        have q2 : ((l.length - k1 : Nat) : Int) < (n : Int) := by omega
        clear hc e0 hg hr h1 h2
        generalize l.length = L at *
        go_enter Tryz.func69, Tryz.ntmps69
        go_wp2_with fail
        refine HC.out.mono ?_
        rintro e w1 ⟨rfl, rfl⟩
        simp only [getOut]
        go_wp2
        go_ret3
        exact ⟨rfl, Keeps.refl _⟩
    · have e0 : rText most long l a = .error long := by unfold rText; rw [hg]; simp only; rw [if_neg h1]
      rw [e0]
      have q : (most : Int) < (n : Int) := by omega
      clear hc e0 hg h1 hr
      generalize l.length = L at *
      go_enter Tryz.func69, Tryz.ntmps69
      go_wp2_with fail
      refine HC.out.mono ?_
      rintro e w1 ⟨rfl, rfl⟩
      simp only [getOut]
      go_wp2
      go_ret3
      exact ⟨rfl, Keeps.refl _⟩
end Go.Proofs.YtbhhhkilljnkfaaGreatDoor
/- The walk of the reference's float of a schema's bytes. Condition: the bytes read. -/
namespace Go.Proofs.YtbhhhkilljnkfaaGreatDoor
open Go.RowKit Go.BigFrame
set_option linter.unusedVariables false
set_option linter.unusedSimpArgs false

def fltOut : Except Int (Nat × Nat) → Value
  | .error e => .tuple #[.float .f64 0, .int .i64 0, .int .i64 e]
  | .ok (x, k) => .tuple #[.float .f64 x, .int .i64 (k : Int), .int .i64 0]
theorem le_drop (m : List UInt8) (j : Nat) (h : j < m.length) : le (m.drop j) = (m.getD j 0).toNat + 256 * le (m.drop (j + 1)) := by
  rw [List.drop_eq_getElem_cons h, le]
  simp [List.getD_eq_getElem?_getD, h]
theorem le_drop_lt (m : List UInt8) (j : Nat) (h : m.length = 8) : le (m.drop j) < 18446744073709551616 := by
  have h1 := le_lt (m.drop j)
  have h2 : 256 ^ (m.drop j).length ≤ 256 ^ 8 := Nat.pow_le_pow_right (by omega) (by rw [List.length_drop]; omega)
  have : (256 : Nat) ^ 8 = 18446744073709551616 := by decide
  omega

set_option maxRecDepth 20000 in
set_option maxHeartbeats 1000000 in
theorem refFloat_calls (A : Option Addr) (c : Nat) (l : List UInt8) (a : Nat) (w : World) (hl : l.length ≤ 140737488355328) (hr : Reads w A l) (ha : a ≤ l.length) :
    Calls Tryz.prog 107 #[.slice A l.length c, .int .i64 (a : Int)] w fun e w' => e = .returned (fltOut (rFloat l a)) ∧ w = w' := by
  have hsw : IntKind.i64.wrap ((l.length : Int) - (a : Int)) = ((l.length - a : Nat) : Int) := by rw [IntWalk.i64_in _ (by omega)]; omega
  by_cases h8 : 8 ≤ l.length - a
  · obtain ⟨m, hm⟩ : ∃ m, m = (l.drop a).take 8 := ⟨_, rfl⟩
    have hml : m.length = 8 := by rw [hm, List.length_take, List.length_drop]; omega
    obtain ⟨R, hR⟩ : ∃ R, R = rFloat l a := ⟨_, rfl⟩
    rw [← hR]
    rw [rFloat, if_pos h8, ← hm] at hR
    obtain ⟨ad, rfl, hbad⟩ := hr.out a (by omega)
    clear hbad
    have hcell : ∀ j, j < 8 → w.cell? (ad.add (a + j)) = some (.int .u8 (((m.getD j 0).toNat : Nat) : Int)) := fun j hj => by
      obtain ⟨ad', e, hc⟩ := hr.out (a + j) (by omega)
      cases e
      have hal : a + j < l.length := by omega
      have e2 : m.getD j 0 = l[a + j]'hal := by simp [hm, List.getD_eq_getElem?_getD, List.getElem?_take, hj, hal]
      rw [hc, e2]
    have hb : a + 8 ≤ l.length := by omega
    have hge : ¬ ((l.length - a : Nat) : Int) < 8 := by omega
    have HCELL := Lib.hid hcell
    have HML := Lib.hid hml
    have HR := Lib.hid hR
    clear hcell hml hR hm hr
    generalize l.length = L at *
    go_enter Tryz.func107, Tryz.ntmps107
    go_wp2_with fail
    go_loopw [7, 8] (fun n i wr => ∃ j : Nat, j ≤ 8 ∧ n = .int .u64 ((le (m.drop j) : Nat) : Int) ∧ i = .int .i64 ((j : Int) - 1) ∧ wr = w) (fun n i _ => (intOf i + 1).toNat)
    case atStart => exact ⟨8, by omega, by rw [List.drop_eq_nil_of_le (by rw [HML.out]; omega)]; rfl, rfl, rfl⟩
    case round =>
      obtain ⟨j, hj, rfl, rfl, rfl⟩ := hrel
      by_cases hj0 : j = 0
      · subst hj0
        rw [List.drop_zero]
        generalize le m = X at HR ⊢
        have HO := Lib.hid (refOf_calls X wr)
        have HBt := Lib.hid (refBits_calls (fbits X) wr)
        have hid := fbits_idem X
        by_cases hx : fbits X = X
        · have HQ := Lib.hid (HR.out.trans (if_pos hx))
          clear HR
          rw [hx] at HO HBt
          rw [hx] at HBt
          clear hx hid
          go_wp2_with (first | (go_at_call 113; refine HO.out.mono ?_; rintro e w2 ⟨rfl, rfl⟩) | (go_at_call 95; refine HBt.out.mono ?_; rintro e w2 ⟨rfl, rfl⟩))
          go_ret3
          exact ⟨by rw [HQ.out]; rfl, rfl⟩
        · have HQ := Lib.hid (HR.out.trans (if_neg hx))
          clear HR
          rw [hid] at HBt
          have q : ¬ ((fbits X : Nat) : Int) = (X : Int) := by omega
          have q' : (((fbits X : Nat) : Int) != (X : Int)) = true := by rw [bne_iff_ne]; omega
          generalize fbits X = Y at *
          go_wp2_with (first | (go_at_call 113; refine HO.out.mono ?_; rintro e w2 ⟨rfl, rfl⟩) | (go_at_call 95; refine HBt.out.mono ?_; rintro e w2 ⟨rfl, rfl⟩))
          go_ret3
          exact ⟨by rw [HQ.out]; rfl, rfl⟩
      · obtain ⟨k, rfl⟩ : ∃ k, j = k + 1 := ⟨j - 1, by omega⟩
        rw [show ((k + 1 : Nat) : Int) - 1 = (k : Int) by omega]
        have hst := le_drop m k (by rw [HML.out]; omega)
        have hvn := le_drop_lt m k HML.out
        have hcm := HCELL.out k (by omega)
        obtain ⟨v, hv⟩ : ∃ v, v = le (m.drop (k + 1)) := ⟨_, rfl⟩
        rw [← hv] at hst ⊢
        obtain ⟨y, hy⟩ : ∃ y, y = (m.getD k 0).toNat := ⟨_, rfl⟩
        rw [← hy] at hcm hst
        have hyl : y < 256 := by rw [hy]; exact (m.getD k 0).toNat_lt
        obtain ⟨q, hq⟩ : ∃ q, q = a + k := ⟨_, rfl⟩
        rw [← hq] at hcm
        have hqL : q < L := by omega
        have hqw : IntKind.i64.wrap ((a : Int) + (k : Int)) = (q : Int) := by rw [IntWalk.i64_in _ (by omega)]; omega
        have HST := Lib.hid hst
        have HVN := Lib.hid hvn
        clear hst hvn hv hy hq HR
        go_wp2
        have hw1 : IntKind.u64.wrap ((v : Int) * 256) = (v : Int) * 256 := IntWalk.u64_in _ (by have := HST.out; have := HVN.out; omega)
        have hw2 : IntKind.u64.wrap ((v : Int) * 256 + (y : Int)) = ((y + 256 * v : Nat) : Int) := by rw [IntWalk.u64_in _ (by have := HST.out; have := HVN.out; omega)]; omega
        exact ⟨⟨k, by omega, by rw [hw1, hw2, HST.out], rfl, trivial⟩, by simp [intOf]⟩
  · have e0 : rFloat l a = .error 30 := by unfold rFloat; rw [if_neg h8]
    rw [e0]
    have hlt : ((l.length - a : Nat) : Int) < 8 := by omega
    clear e0 hr
    generalize l.length = L at *
    go_enter Tryz.func107, Tryz.ntmps107
    go_wp2
    go_ret3
    exact ⟨rfl, rfl⟩
end Go.Proofs.YtbhhhkilljnkfaaGreatDoor
/- The walk of the reference's bit of a schema's bytes. Condition: the bytes read. -/
namespace Go.Proofs.YtbhhhkilljnkfaaGreatDoor
open Go.RowKit
set_option linter.unusedVariables false
set_option linter.unusedSimpArgs false

/-- a byte that is 0 or 1 -/
def bitAt (l : List UInt8) (a : Nat) : Except Int (Nat × Nat) :=
  if l.length ≤ a then .error 30 else if 1 < (l.getD a 0).toNat then .error 5 else .ok ((l.getD a 0).toNat, a + 1)
def bitOut : Except Int (Nat × Nat) → Value
  | .error e => .tuple #[.int .i64 0, .int .i64 0, .int .i64 e]
  | .ok (n, k) => .tuple #[.int .i64 (n : Int), .int .i64 (k : Int), .int .i64 0]

set_option maxRecDepth 10000 in
set_option maxHeartbeats 400000 in
theorem refBit_calls (A : Option Addr) (c : Nat) (l : List UInt8) (a : Nat) (w : World) (hl : l.length ≤ 140737488355328) (hr : Reads w A l) (ha : a ≤ l.length) :
    Calls Tryz.prog 73 #[.slice A l.length c, .int .i64 (a : Int)] w fun e w' => e = .returned (bitOut (bitAt l a)) ∧ w = w' := by
  by_cases hend : l.length ≤ a
  · have e0 : bitAt l a = .error 30 := by unfold bitAt; rw [if_pos hend]
    rw [e0]
    clear e0 hr
    generalize l.length = L at *
    go_enter Tryz.func73, Tryz.ntmps73
    go_wp2
    go_ret3
    exact ⟨rfl, rfl⟩
  · have hlt : a < l.length := by omega
    obtain ⟨ad, rfl, hc⟩ := hr.out a hlt
    have hg : l.getD a 0 = l[a]'hlt := by simp [List.getD_eq_getElem?_getD, hlt]
    obtain ⟨x, hx⟩ : ∃ x, x = (l[a]'hlt).toNat := ⟨_, rfl⟩
    obtain ⟨R, hR⟩ : ∃ R, R = bitAt l a := ⟨_, rfl⟩
    rw [← hR]
    unfold bitAt at hR
    rw [if_neg hend, hg, ← hx] at hR
    rw [← hx] at hc
    have hw : IntKind.i64.wrap (x : Int) = (x : Int) := IntWalk.i64_in _ (by have := (l[a]'hlt).toNat_lt; omega)
    have hw2 : IntKind.i64.wrap ((a : Int) + 1) = ((a + 1 : Nat) : Int) := by rw [IntWalk.i64_in _ (by omega)]; omega
    clear hr hg hx hend ha
    generalize l.length = L at *
    by_cases h1 : 1 < x
    · have HR := Lib.hid (hR.trans (if_pos h1))
      have hi : (1 : Int) < (x : Int) := by omega
      clear hR h1
      go_enter Tryz.func73, Tryz.ntmps73
      go_wp2
      go_ret3
      exact ⟨by rw [HR.out]; rfl, rfl⟩
    · have HR := Lib.hid (hR.trans (if_neg h1))
      have hi : ¬ (1 : Int) < (x : Int) := by omega
      clear hR h1
      go_enter Tryz.func73, Tryz.ntmps73
      go_wp2
      go_ret3
      exact ⟨by rw [HR.out]; rfl, rfl⟩
end Go.Proofs.YtbhhhkilljnkfaaGreatDoor
/- The walk of the reference's scalar: a value of a kind without items. Condition: the bytes read, the row has room for them. -/
namespace Go.Proofs.YtbhhhkilljnkfaaGreatDoor
open Go.RowKit Go.BigFrame
set_option linter.unusedVariables false
set_option linter.unusedSimpArgs false
attribute [local go_sem] run_storeF

/-- what the reference's reader of a value comes to -/
def RefValPost (w : World) (r : Except Int (Va × Nat)) (e : Ending) (w' : World) : Prop :=
  match r with
  | .error er => e = .returned (.tuple #[.agg #[.int .i64 0, .int .i64 0, .float .f64 0, .string ⟨#[]⟩, .slice none 0 0], .int .i64 0, .int .i64 er]) ∧ Keeps w w'
  | .ok (t, k) => ∃ v, e = .returned (.tuple #[v, .int .i64 (k : Int), .int .i64 0]) ∧ VaS w' (fun b => w.heap.size ≤ b) v t ∧ Keeps w w'
theorem bitAt_eq (l : List UInt8) (a : Nat) : bitAt l a = rBit l a := by
  unfold bitAt rBit rByte
  by_cases h : a < l.length
  · rw [if_neg (by omega), dif_pos h]
    have hg : l.getD a 0 = l[a]'h := by simp [List.getD_eq_getElem?_getD, h]
    rw [hg]
    simp only
    by_cases h1 : 1 < (l[a]'h).toNat
    · rw [if_pos h1, if_neg (by omega)]
    · rw [if_neg h1, if_pos (by omega)]
  · rw [if_pos (by omega), dif_neg h]
theorem rFloat_err {l : List UInt8} {a : Nat} {e : Int} (h : rFloat l a = .error e) : e ≠ 0 := by
  unfold rFloat at h
  split at h
  · split at h
    · cases h
    · injection h with h; omega
  · injection h with h; omega
theorem rText_err {most : Nat} {long : Int} {l : List UInt8} {a : Nat} {e : Int} (hl : long ≠ 0) (h : rText most long l a = .error e) : e ≠ 0 := by
  unfold rText at h
  split at h
  · rename_i e1 hg
    injection h with h
    rw [← h]
    exact lebGet_err hg
  · split at h
    · split at h
      · cases h
      · injection h with h; omega
    · injection h with h; omega
theorem rText_len {most : Nat} {long : Int} {l t : List UInt8} {a j : Nat} (h : rText most long l a = .ok (t, j)) : t.length ≤ most := by
  unfold rText at h
  split at h
  · cases h
  · split at h
    · split at h
      · injection h with h
        injection h with h1 h2
        rw [← h1, List.length_take]
        omega
      · cases h
    · cases h
theorem utf_empty : utfOk empty = true := rfl
theorem zag_zero : zag 0 = 0 := rfl
/-- the world in which the kinds are told apart -/
abbrev scaW (w : World) (k : Int) : World :=
  (w.alloc (.cells #[.int .i64 0, .int .i64 0, .float .f64 0, .string ⟨#[]⟩, .slice none 0 0] 71)).alloc (.cells #[.int .i64 k, .int .i64 0, .float .f64 0, .string ⟨#[]⟩, .slice none 0 0] 71)
theorem scaW_r (w : World) (k : Int) : (scaW w k).heap[w.heap.size]? = some (.cells #[.int .i64 0, .int .i64 0, .float .f64 0, .string ⟨#[]⟩, .slice none 0 0] 71) := obj_old (obj_new w _) _
theorem scaW_v (w : World) (k : Int) : (scaW w k).heap[w.heap.size + 1]? = some (.cells #[.int .i64 k, .int .i64 0, .float .f64 0, .string ⟨#[]⟩, .slice none 0 0] 71) := obj_new_at _ _ _ (by simp)
theorem scaW_keeps (w : World) (k : Int) : Keeps w (scaW w k) := ((Keeps.refl w).alloc _).alloc _
/-- the two blocks of the call's own -/
def Own2 (w : World) : Nat → Prop := fun k => k = w.heap.size ∨ k = w.heap.size + 1
theorem own2_keeps {w w1 w' : World} (h : Keeps w w1) (h2 : Touch (Own2 w) w1 w') : Keeps w w' :=
  Touch.nothing ((Touch.of_below (F := Own2 w) h.below fun k hk hb => absurd hk (by omega)).then h2) fun k hk h => by unfold Own2 at h; omega

set_option maxRecDepth 10000 in
set_option maxHeartbeats 1000000 in
theorem refScalar_one (A : Option Addr) (c : Nat) (l : List UInt8) (a : Nat) (w : World) (hl : l.length ≤ 140737488355328) (hcap : l.length ≤ c) (hr : Reads w A l) (ha : a ≤ l.length) (f : Nat → Except Int (Va × Nat)) :
    Calls Tryz.prog 94 #[.int .i64 1, .slice A l.length c, .int .i64 (a : Int)] w (RefValPost w (rKinds 1 f l a)) := by
  have hp : rKinds 1 f l a = (match rBit l a with | .error e => .error e | .ok (x, j) => .ok (.mk 1 x 0 empty [], j)) := rfl
  have hr0 : Reads (scaW w 1) A l := hr.below (scaW_keeps w 1).below
  have hc := refBit_calls A c l a (scaW w 1) hl hr0 ha
  rw [bitAt_eq] at hc
  cases hb : rBit l a with
  | error er =>
    rw [hb] at hp
    try simp only at hp
    rw [hp]
    try rw [hb] at hc
    have HC := Lib.hid hc
    have HNZ := Lib.hid (show er ≠ 0 by rcases rBit_err hb with h | h <;> omega)
    clear hp hb hr0 hc hr
    generalize l.length = L at *
    go_enter Tryz.func94, Tryz.ntmps94
    go_wp2_with fail
    refine HC.out.mono ?_
    rintro e w1 ⟨rfl, hq⟩
    have hkk : Keeps (scaW w 1) w1 := hq ▸ Keeps.refl _
    clear HC hq
    simp only [bitOut]
    have hb2 := (hkk.below.block _ (obj_lt (scaW_r w 1))).trans (scaW_r w 1)
    have hb3 := (hkk.below.block _ (obj_lt (scaW_v w 1))).trans (scaW_v w 1)
    obtain ⟨d0, d1, d2, d3, d4, z0, z1, z2, z3, z4⟩ := cells5 hb2
    obtain ⟨e0, e1, e2, e3, e4, y0, y1, y2, y3, y4⟩ := cells5 hb3
    have u3 := obj_lt hb3
    have HK := Lib.hid ((scaW_keeps w 1).trans hkk)
    clear hkk hb2 hb3
    have qe : (er != 0) = true := by simpa using HNZ.out
    go_wp2
    refine bodyPost_ret (v := .tuple #[.agg #[.int .i64 0, .int .i64 0, .float .f64 0, .string ⟨#[]⟩, .slice none 0 0], .int .i64 0, .int .i64 er]) (by simp [results, Tryz.results94, go_sem, u3, d0, d1, d2, d3, d4, e0, e1, e2, e3, e4]) rfl ?_
    exact ⟨rfl, own2_keeps HK.out (((((((Touch.refl (Own2 w) w1).setCell _ _ fun _ => .inr rfl).setCell _ _ fun _ => .inl rfl).setCell _ _ fun _ => .inl rfl).setCell _ _ fun _ => .inl rfl).setCell _ _ fun _ => .inl rfl).setCell _ _ fun _ => .inl rfl)⟩
  | ok r =>
    obtain ⟨x, j⟩ := r
    rw [hb] at hp
    try simp only at hp
    rw [hp]
    try rw [hb] at hc
    have HC := Lib.hid hc
    clear hp hb hr0 hc hr
    generalize l.length = L at *
    go_enter Tryz.func94, Tryz.ntmps94
    go_wp2_with fail
    refine HC.out.mono ?_
    rintro e w1 ⟨rfl, hq⟩
    have hkk : Keeps (scaW w 1) w1 := hq ▸ Keeps.refl _
    clear HC hq
    simp only [bitOut]
    have hb2 := (hkk.below.block _ (obj_lt (scaW_r w 1))).trans (scaW_r w 1)
    have hb3 := (hkk.below.block _ (obj_lt (scaW_v w 1))).trans (scaW_v w 1)
    obtain ⟨d0, d1, d2, d3, d4, z0, z1, z2, z3, z4⟩ := cells5 hb2
    obtain ⟨e0, e1, e2, e3, e4, y0, y1, y2, y3, y4⟩ := cells5 hb3
    have u3 := obj_lt hb3
    have HK := Lib.hid ((scaW_keeps w 1).trans hkk)
    clear hkk hb2 hb3
    go_wp2
    refine bodyPost_ret (v := .tuple #[.agg #[.int .i64 1, .int .i64 (x : Int), .float .f64 0, .string ⟨#[]⟩, .slice none 0 0], .int .i64 (j : Int), .int .i64 0]) (by simp [results, Tryz.results94, go_sem, u3, d0, d1, d2, d3, d4, e0, e1, e2, e3, e4]) rfl ?_
    exact ⟨_, rfl, VaS.leaf _ _ _ _ _ _ _ _, own2_keeps HK.out (((((((Touch.refl (Own2 w) w1).setCell _ _ fun _ => .inr rfl).setCell _ _ fun _ => .inl rfl).setCell _ _ fun _ => .inl rfl).setCell _ _ fun _ => .inl rfl).setCell _ _ fun _ => .inl rfl).setCell _ _ fun _ => .inl rfl)⟩

set_option maxRecDepth 10000 in
set_option maxHeartbeats 1000000 in
theorem refScalar_two (A : Option Addr) (c : Nat) (l : List UInt8) (a : Nat) (w : World) (hl : l.length ≤ 140737488355328) (hcap : l.length ≤ c) (hr : Reads w A l) (ha : a ≤ l.length) (f : Nat → Except Int (Va × Nat)) :
    Calls Tryz.prog 94 #[.int .i64 2, .slice A l.length c, .int .i64 (a : Int)] w (RefValPost w (rKinds 2 f l a)) := by
  have hp : rKinds 2 f l a = (match lebGet l a with | .error e => .error e | .ok (n, j) => .ok (.mk 2 (zag n) 0 empty [], j)) := rfl
  have hr0 : Reads (scaW w 2) A l := hr.below (scaW_keeps w 2).below
  have hc := ref3Get_calls A c l a (scaW w 2) hl hr0 ha
  cases hb : lebGet l a with
  | error er =>
    rw [hb] at hp
    try simp only at hp
    rw [hp]
    try rw [hb] at hc
    have HC := Lib.hid hc
    have HNZ := Lib.hid (lebGet_err hb)
    clear hp hb hr0 hc hr
    generalize l.length = L at *
    go_enter Tryz.func94, Tryz.ntmps94
    go_wp2_with fail
    refine HC.out.mono ?_
    rintro e w1 ⟨rfl, hq⟩
    have hkk : Keeps (scaW w 2) w1 := hq ▸ Keeps.refl _
    clear HC hq
    simp only [getOut]
    have hb2 := (hkk.below.block _ (obj_lt (scaW_r w 2))).trans (scaW_r w 2)
    have hb3 := (hkk.below.block _ (obj_lt (scaW_v w 2))).trans (scaW_v w 2)
    obtain ⟨d0, d1, d2, d3, d4, z0, z1, z2, z3, z4⟩ := cells5 hb2
    obtain ⟨e0, e1, e2, e3, e4, y0, y1, y2, y3, y4⟩ := cells5 hb3
    have u3 := obj_lt hb3
    have HK := Lib.hid ((scaW_keeps w 2).trans hkk)
    clear hkk hb2 hb3
    have qe : (er != 0) = true := by simpa using HNZ.out
    go_wp2_with (go_at_call 106; refine (ref3Zag_calls 0 (by omega) _).mono ?_; rintro e w2 ⟨rfl, rfl⟩; rw [zag_zero])
    refine bodyPost_ret (v := .tuple #[.agg #[.int .i64 0, .int .i64 0, .float .f64 0, .string ⟨#[]⟩, .slice none 0 0], .int .i64 0, .int .i64 er]) (by simp [results, Tryz.results94, go_sem, u3, d0, d1, d2, d3, d4, e0, e1, e2, e3, e4]) rfl ?_
    exact ⟨rfl, own2_keeps HK.out (((((((Touch.refl (Own2 w) w1).setCell _ _ fun _ => .inr rfl).setCell _ _ fun _ => .inl rfl).setCell _ _ fun _ => .inl rfl).setCell _ _ fun _ => .inl rfl).setCell _ _ fun _ => .inl rfl).setCell _ _ fun _ => .inl rfl)⟩
  | ok r =>
    obtain ⟨x, j⟩ := r
    rw [hb] at hp
    try simp only at hp
    rw [hp]
    try rw [hb] at hc
    have HC := Lib.hid hc
    have HZ := Lib.hid (ref3Zag_calls x (lebGet_num hb))
    obtain ⟨X, hX⟩ : ∃ X, X = zag x := ⟨_, rfl⟩
    rw [← hX] at HZ ⊢
    clear hX
    clear hp hb hr0 hc hr
    generalize l.length = L at *
    go_enter Tryz.func94, Tryz.ntmps94
    go_wp2_with fail
    refine HC.out.mono ?_
    rintro e w1 ⟨rfl, hq⟩
    have hkk : Keeps (scaW w 2) w1 := hq ▸ Keeps.refl _
    clear HC hq
    simp only [getOut]
    have hb2 := (hkk.below.block _ (obj_lt (scaW_r w 2))).trans (scaW_r w 2)
    have hb3 := (hkk.below.block _ (obj_lt (scaW_v w 2))).trans (scaW_v w 2)
    obtain ⟨d0, d1, d2, d3, d4, z0, z1, z2, z3, z4⟩ := cells5 hb2
    obtain ⟨e0, e1, e2, e3, e4, y0, y1, y2, y3, y4⟩ := cells5 hb3
    have u3 := obj_lt hb3
    have HK := Lib.hid ((scaW_keeps w 2).trans hkk)
    clear hkk hb2 hb3
    go_wp2_with (go_at_call 106; refine (HZ.out _).mono ?_; rintro e w2 ⟨rfl, rfl⟩)
    refine bodyPost_ret (v := .tuple #[.agg #[.int .i64 2, .int .i64 X, .float .f64 0, .string ⟨#[]⟩, .slice none 0 0], .int .i64 (j : Int), .int .i64 0]) (by simp [results, Tryz.results94, go_sem, u3, d0, d1, d2, d3, d4, e0, e1, e2, e3, e4]) rfl ?_
    exact ⟨_, rfl, VaS.leaf _ _ _ _ _ _ _ _, own2_keeps HK.out (((((((Touch.refl (Own2 w) w1).setCell _ _ fun _ => .inr rfl).setCell _ _ fun _ => .inl rfl).setCell _ _ fun _ => .inl rfl).setCell _ _ fun _ => .inl rfl).setCell _ _ fun _ => .inl rfl).setCell _ _ fun _ => .inl rfl)⟩

set_option maxRecDepth 10000 in
set_option maxHeartbeats 1000000 in
theorem refScalar_three (A : Option Addr) (c : Nat) (l : List UInt8) (a : Nat) (w : World) (hl : l.length ≤ 140737488355328) (hcap : l.length ≤ c) (hr : Reads w A l) (ha : a ≤ l.length) (f : Nat → Except Int (Va × Nat)) :
    Calls Tryz.prog 94 #[.int .i64 3, .slice A l.length c, .int .i64 (a : Int)] w (RefValPost w (rKinds 3 f l a)) := by
  have hp : rKinds 3 f l a = (match rFloat l a with | .error e => .error e | .ok (x, j) => .ok (.mk 3 0 x empty [], j)) := rfl
  have hr0 : Reads (scaW w 3) A l := hr.below (scaW_keeps w 3).below
  have hc := refFloat_calls A c l a (scaW w 3) hl hr0 ha
  cases hb : rFloat l a with
  | error er =>
    rw [hb] at hp
    try simp only at hp
    rw [hp]
    try rw [hb] at hc
    have HC := Lib.hid hc
    have HNZ := Lib.hid (rFloat_err hb)
    clear hp hb hr0 hc hr
    generalize l.length = L at *
    go_enter Tryz.func94, Tryz.ntmps94
    go_wp2_with fail
    refine HC.out.mono ?_
    rintro e w1 ⟨rfl, hq⟩
    have hkk : Keeps (scaW w 3) w1 := hq ▸ Keeps.refl _
    clear HC hq
    simp only [fltOut]
    have hb2 := (hkk.below.block _ (obj_lt (scaW_r w 3))).trans (scaW_r w 3)
    have hb3 := (hkk.below.block _ (obj_lt (scaW_v w 3))).trans (scaW_v w 3)
    obtain ⟨d0, d1, d2, d3, d4, z0, z1, z2, z3, z4⟩ := cells5 hb2
    obtain ⟨e0, e1, e2, e3, e4, y0, y1, y2, y3, y4⟩ := cells5 hb3
    have u3 := obj_lt hb3
    have HK := Lib.hid ((scaW_keeps w 3).trans hkk)
    clear hkk hb2 hb3
    have qe : (er != 0) = true := by simpa using HNZ.out
    go_wp2
    refine bodyPost_ret (v := .tuple #[.agg #[.int .i64 0, .int .i64 0, .float .f64 0, .string ⟨#[]⟩, .slice none 0 0], .int .i64 0, .int .i64 er]) (by simp [results, Tryz.results94, go_sem, u3, d0, d1, d2, d3, d4, e0, e1, e2, e3, e4]) rfl ?_
    exact ⟨rfl, own2_keeps HK.out (((((((Touch.refl (Own2 w) w1).setCell _ _ fun _ => .inr rfl).setCell _ _ fun _ => .inl rfl).setCell _ _ fun _ => .inl rfl).setCell _ _ fun _ => .inl rfl).setCell _ _ fun _ => .inl rfl).setCell _ _ fun _ => .inl rfl)⟩
  | ok r =>
    obtain ⟨x, j⟩ := r
    rw [hb] at hp
    try simp only at hp
    rw [hp]
    try rw [hb] at hc
    have HC := Lib.hid hc
    clear hp hb hr0 hc hr
    generalize l.length = L at *
    go_enter Tryz.func94, Tryz.ntmps94
    go_wp2_with fail
    refine HC.out.mono ?_
    rintro e w1 ⟨rfl, hq⟩
    have hkk : Keeps (scaW w 3) w1 := hq ▸ Keeps.refl _
    clear HC hq
    simp only [fltOut]
    have hb2 := (hkk.below.block _ (obj_lt (scaW_r w 3))).trans (scaW_r w 3)
    have hb3 := (hkk.below.block _ (obj_lt (scaW_v w 3))).trans (scaW_v w 3)
    obtain ⟨d0, d1, d2, d3, d4, z0, z1, z2, z3, z4⟩ := cells5 hb2
    obtain ⟨e0, e1, e2, e3, e4, y0, y1, y2, y3, y4⟩ := cells5 hb3
    have u3 := obj_lt hb3
    have HK := Lib.hid ((scaW_keeps w 3).trans hkk)
    clear hkk hb2 hb3
    go_wp2
    refine bodyPost_ret (v := .tuple #[.agg #[.int .i64 3, .int .i64 0, .float .f64 x, .string ⟨#[]⟩, .slice none 0 0], .int .i64 (j : Int), .int .i64 0]) (by simp [results, Tryz.results94, go_sem, u3, d0, d1, d2, d3, d4, e0, e1, e2, e3, e4]) rfl ?_
    exact ⟨_, rfl, VaS.leaf _ _ _ _ _ _ _ _, own2_keeps HK.out (((((((Touch.refl (Own2 w) w1).setCell _ _ fun _ => .inr rfl).setCell _ _ fun _ => .inl rfl).setCell _ _ fun _ => .inl rfl).setCell _ _ fun _ => .inl rfl).setCell _ _ fun _ => .inl rfl).setCell _ _ fun _ => .inl rfl)⟩

set_option maxRecDepth 10000 in
set_option maxHeartbeats 1000000 in
theorem refScalar_four (A : Option Addr) (c : Nat) (l : List UInt8) (a : Nat) (w : World) (hl : l.length ≤ 140737488355328) (hcap : l.length ≤ c) (hr : Reads w A l) (ha : a ≤ l.length) (f : Nat → Except Int (Va × Nat)) :
    Calls Tryz.prog 94 #[.int .i64 4, .slice A l.length c, .int .i64 (a : Int)] w (RefValPost w (rKinds 4 f l a)) := by
  have hp : rKinds 4 f l a = (match rText 1024 2 l a with | .error e => .error e | .ok (t, j) => if utfOk (str t) then .ok (.mk 4 0 0 (str t) [], j) else .error 61) := rfl
  have hr0 : Reads (scaW w 4) A l := hr.below (scaW_keeps w 4).below
  have hc := refText_calls A c l a 1024 2 (scaW w 4) hl hcap hr0 ha (by omega)
  cases hb : rText 1024 2 l a with
  | error er =>
    rw [hb] at hp
    try simp only at hp
    rw [hp]
    try rw [hb] at hc
    have HC := Lib.hid hc
    have HNZ := Lib.hid (rText_err (by omega) hb)
    have HU := Lib.hid (fun wx => refUtf_calls ⟨#[]⟩ wx (show 0 ≤ _ by omega))
    rw [show utfOk ⟨#[]⟩ = true from utf_empty] at HU
    clear hp hb hr0 hc hr
    generalize l.length = L at *
    go_enter Tryz.func94, Tryz.ntmps94
    go_wp2_with fail
    refine HC.out.mono ?_
    rintro e w1 ⟨rfl, hkk⟩
    clear HC
    simp only [textOut]
    have hb2 := (hkk.below.block _ (obj_lt (scaW_r w 4))).trans (scaW_r w 4)
    have hb3 := (hkk.below.block _ (obj_lt (scaW_v w 4))).trans (scaW_v w 4)
    obtain ⟨d0, d1, d2, d3, d4, z0, z1, z2, z3, z4⟩ := cells5 hb2
    obtain ⟨e0, e1, e2, e3, e4, y0, y1, y2, y3, y4⟩ := cells5 hb3
    have u3 := obj_lt hb3
    have HK := Lib.hid ((scaW_keeps w 4).trans hkk)
    clear hkk hb2 hb3
    have qe : (er != 0) = true := by simpa using HNZ.out
    go_wp2_with (go_at_call 108; refine (HU.out _).mono ?_; rintro e w2 ⟨rfl, rfl⟩)
    refine bodyPost_ret (v := .tuple #[.agg #[.int .i64 0, .int .i64 0, .float .f64 0, .string ⟨#[]⟩, .slice none 0 0], .int .i64 0, .int .i64 er]) (by simp [results, Tryz.results94, go_sem, u3, d0, d1, d2, d3, d4, e0, e1, e2, e3, e4]) rfl ?_
    exact ⟨rfl, own2_keeps HK.out (((((((Touch.refl (Own2 w) w1).setCell _ _ fun _ => .inr rfl).setCell _ _ fun _ => .inl rfl).setCell _ _ fun _ => .inl rfl).setCell _ _ fun _ => .inl rfl).setCell _ _ fun _ => .inl rfl).setCell _ _ fun _ => .inl rfl)⟩
  | ok r =>
    obtain ⟨t, j⟩ := r
    rw [hb] at hp
    try simp only at hp
    try rw [hb] at hc
    have hts : (str t).size ≤ 1024 := by
      have h := rText_len hb
      show t.toArray.size ≤ 1024
      simpa using h
    have hu := fun wx => refUtf_calls (str t) wx (by omega)
    cases hy : utfOk (str t) with
    | true =>
      rw [hy] at hu hp
      rw [if_pos rfl] at hp
      rw [hp]
      have HC := Lib.hid hc
      simp only [textOut] at HC
      generalize str t = T at *
      have HU := Lib.hid hu
      clear hu hy
      clear hp hb hr0 hc hr hts
      generalize l.length = L at *
      go_enter Tryz.func94, Tryz.ntmps94
      go_wp2_with fail
      refine HC.out.mono ?_
      rintro e w1 ⟨rfl, hkk⟩
      clear HC
      have hb2 := (hkk.below.block _ (obj_lt (scaW_r w 4))).trans (scaW_r w 4)
      have hb3 := (hkk.below.block _ (obj_lt (scaW_v w 4))).trans (scaW_v w 4)
      obtain ⟨d0, d1, d2, d3, d4, z0, z1, z2, z3, z4⟩ := cells5 hb2
      obtain ⟨e0, e1, e2, e3, e4, y0, y1, y2, y3, y4⟩ := cells5 hb3
      have u3 := obj_lt hb3
      have HK := Lib.hid ((scaW_keeps w 4).trans hkk)
      clear hkk hb2 hb3
      go_wp2_with (go_at_call 108; refine (HU.out _).mono ?_; rintro e w2 ⟨rfl, rfl⟩)
      refine bodyPost_ret (v := .tuple #[.agg #[.int .i64 4, .int .i64 0, .float .f64 0, .string T, .slice none 0 0], .int .i64 (j : Int), .int .i64 0]) (by simp [results, Tryz.results94, go_sem, u3, d0, d1, d2, d3, d4, e0, e1, e2, e3, e4]) rfl ?_
      exact ⟨_, rfl, VaS.leaf _ _ _ _ _ _ _ _, own2_keeps HK.out (((((((Touch.refl (Own2 w) w1).setCell _ _ fun _ => .inr rfl).setCell _ _ fun _ => .inl rfl).setCell _ _ fun _ => .inl rfl).setCell _ _ fun _ => .inl rfl).setCell _ _ fun _ => .inl rfl).setCell _ _ fun _ => .inl rfl)⟩
    | false =>
      rw [hy] at hu hp
      rw [if_neg (by simp)] at hp
      rw [hp]
      have HC := Lib.hid hc
      simp only [textOut] at HC
      generalize str t = T at *
      have HU := Lib.hid hu
      clear hu hy
      clear hp hb hr0 hc hr hts
      generalize l.length = L at *
      go_enter Tryz.func94, Tryz.ntmps94
      go_wp2_with fail
      refine HC.out.mono ?_
      rintro e w1 ⟨rfl, hkk⟩
      clear HC
      have hb2 := (hkk.below.block _ (obj_lt (scaW_r w 4))).trans (scaW_r w 4)
      have hb3 := (hkk.below.block _ (obj_lt (scaW_v w 4))).trans (scaW_v w 4)
      obtain ⟨d0, d1, d2, d3, d4, z0, z1, z2, z3, z4⟩ := cells5 hb2
      obtain ⟨e0, e1, e2, e3, e4, y0, y1, y2, y3, y4⟩ := cells5 hb3
      have u3 := obj_lt hb3
      have HK := Lib.hid ((scaW_keeps w 4).trans hkk)
      clear hkk hb2 hb3
      go_wp2_with (go_at_call 108; refine (HU.out _).mono ?_; rintro e w2 ⟨rfl, rfl⟩)
      refine bodyPost_ret (v := .tuple #[.agg #[.int .i64 0, .int .i64 0, .float .f64 0, .string ⟨#[]⟩, .slice none 0 0], .int .i64 0, .int .i64 61]) (by simp [results, Tryz.results94, go_sem, u3, d0, d1, d2, d3, d4, e0, e1, e2, e3, e4]) rfl ?_
      exact ⟨rfl, own2_keeps HK.out (((((((Touch.refl (Own2 w) w1).setCell _ _ fun _ => .inr rfl).setCell _ _ fun _ => .inl rfl).setCell _ _ fun _ => .inl rfl).setCell _ _ fun _ => .inl rfl).setCell _ _ fun _ => .inl rfl).setCell _ _ fun _ => .inl rfl)⟩

set_option maxRecDepth 10000 in
set_option maxHeartbeats 1000000 in
theorem refScalar_five (A : Option Addr) (c : Nat) (l : List UInt8) (a : Nat) (w : World) (hl : l.length ≤ 140737488355328) (hcap : l.length ≤ c) (hr : Reads w A l) (ha : a ≤ l.length) (f : Nat → Except Int (Va × Nat)) :
    Calls Tryz.prog 94 #[.int .i64 5, .slice A l.length c, .int .i64 (a : Int)] w (RefValPost w (rKinds 5 f l a)) := by
  have hp : rKinds 5 f l a = (match rText 1024 2 l a with | .error e => .error e | .ok (t, j) => .ok (.mk 5 0 0 (str t) [], j)) := rfl
  have hr0 : Reads (scaW w 5) A l := hr.below (scaW_keeps w 5).below
  have hc := refText_calls A c l a 1024 2 (scaW w 5) hl hcap hr0 ha (by omega)
  cases hb : rText 1024 2 l a with
  | error er =>
    rw [hb] at hp
    try simp only at hp
    rw [hp]
    try rw [hb] at hc
    have HC := Lib.hid hc
    have HNZ := Lib.hid (rText_err (by omega) hb)
    have HU := Lib.hid (fun wx => refUtf_calls ⟨#[]⟩ wx (show 0 ≤ _ by omega))
    rw [show utfOk ⟨#[]⟩ = true from utf_empty] at HU
    clear hp hb hr0 hc hr
    generalize l.length = L at *
    go_enter Tryz.func94, Tryz.ntmps94
    go_wp2_with fail
    refine HC.out.mono ?_
    rintro e w1 ⟨rfl, hkk⟩
    clear HC
    simp only [textOut]
    have hb2 := (hkk.below.block _ (obj_lt (scaW_r w 5))).trans (scaW_r w 5)
    have hb3 := (hkk.below.block _ (obj_lt (scaW_v w 5))).trans (scaW_v w 5)
    obtain ⟨d0, d1, d2, d3, d4, z0, z1, z2, z3, z4⟩ := cells5 hb2
    obtain ⟨e0, e1, e2, e3, e4, y0, y1, y2, y3, y4⟩ := cells5 hb3
    have u3 := obj_lt hb3
    have HK := Lib.hid ((scaW_keeps w 5).trans hkk)
    clear hkk hb2 hb3
    have qe : (er != 0) = true := by simpa using HNZ.out
    go_wp2_with (go_at_call 108; refine (HU.out _).mono ?_; rintro e w2 ⟨rfl, rfl⟩)
    refine bodyPost_ret (v := .tuple #[.agg #[.int .i64 0, .int .i64 0, .float .f64 0, .string ⟨#[]⟩, .slice none 0 0], .int .i64 0, .int .i64 er]) (by simp [results, Tryz.results94, go_sem, u3, d0, d1, d2, d3, d4, e0, e1, e2, e3, e4]) rfl ?_
    exact ⟨rfl, own2_keeps HK.out (((((((Touch.refl (Own2 w) w1).setCell _ _ fun _ => .inr rfl).setCell _ _ fun _ => .inl rfl).setCell _ _ fun _ => .inl rfl).setCell _ _ fun _ => .inl rfl).setCell _ _ fun _ => .inl rfl).setCell _ _ fun _ => .inl rfl)⟩
  | ok r =>
    obtain ⟨t, j⟩ := r
    rw [hb] at hp
    try simp only at hp
    try rw [hb] at hc
    have hts : (str t).size ≤ 1024 := by
      have h := rText_len hb
      show t.toArray.size ≤ 1024
      simpa using h
    have hu := fun wx => refUtf_calls (str t) wx (by omega)
    rw [hp]
    have HC := Lib.hid hc
    simp only [textOut] at HC
    generalize str t = T at *
    have HU := Lib.hid hu
    clear hu
    generalize utfOk T = Y at HU
    clear hp hb hr0 hc hr hts
    generalize l.length = L at *
    go_enter Tryz.func94, Tryz.ntmps94
    go_wp2_with fail
    refine HC.out.mono ?_
    rintro e w1 ⟨rfl, hkk⟩
    clear HC
    have hb2 := (hkk.below.block _ (obj_lt (scaW_r w 5))).trans (scaW_r w 5)
    have hb3 := (hkk.below.block _ (obj_lt (scaW_v w 5))).trans (scaW_v w 5)
    obtain ⟨d0, d1, d2, d3, d4, z0, z1, z2, z3, z4⟩ := cells5 hb2
    obtain ⟨e0, e1, e2, e3, e4, y0, y1, y2, y3, y4⟩ := cells5 hb3
    have u3 := obj_lt hb3
    have HK := Lib.hid ((scaW_keeps w 5).trans hkk)
    clear hkk hb2 hb3
    go_wp2_with (go_at_call 108; refine (HU.out _).mono ?_; rintro e w2 ⟨rfl, rfl⟩)
    refine bodyPost_ret (v := .tuple #[.agg #[.int .i64 5, .int .i64 0, .float .f64 0, .string T, .slice none 0 0], .int .i64 (j : Int), .int .i64 0]) (by simp [results, Tryz.results94, go_sem, u3, d0, d1, d2, d3, d4, e0, e1, e2, e3, e4]) rfl ?_
    exact ⟨_, rfl, VaS.leaf _ _ _ _ _ _ _ _, own2_keeps HK.out (((((((Touch.refl (Own2 w) w1).setCell _ _ fun _ => .inr rfl).setCell _ _ fun _ => .inl rfl).setCell _ _ fun _ => .inl rfl).setCell _ _ fun _ => .inl rfl).setCell _ _ fun _ => .inl rfl).setCell _ _ fun _ => .inl rfl)⟩

theorem refScalar_calls (k : Int) (h1 : 1 ≤ k) (h5 : k ≤ 5) (A : Option Addr) (c : Nat) (l : List UInt8) (a : Nat) (w : World) (hl : l.length ≤ 140737488355328) (hcap : l.length ≤ c) (hr : Reads w A l) (ha : a ≤ l.length) (f : Nat → Except Int (Va × Nat)) :
    Calls Tryz.prog 94 #[.int .i64 k, .slice A l.length c, .int .i64 (a : Int)] w (RefValPost w (rKinds k f l a)) := by
  obtain rfl | rfl | rfl | rfl | rfl : k = 1 ∨ k = 2 ∨ k = 3 ∨ k = 4 ∨ k = 5 := by omega
  · exact refScalar_one A c l a w hl hcap hr ha f
  · exact refScalar_two A c l a w hl hcap hr ha f
  · exact refScalar_three A c l a w hl hcap hr ha f
  · exact refScalar_four A c l a w hl hcap hr ha f
  · exact refScalar_five A c l a w hl hcap hr ha f
end Go.Proofs.YtbhhhkilljnkfaaGreatDoor
