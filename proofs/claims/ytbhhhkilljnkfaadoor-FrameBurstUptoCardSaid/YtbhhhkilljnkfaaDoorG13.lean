/-
  Bits turned within 32 side by side, and the check: plain. No condition. The walk of the document's Stuff. Condition: the bytes read as a list. The walk of the document's Unstuff. Condition: the bytes read as a list. The walk of FrameBurst. Condition: the frame reads; the numbers are of their kinds; the tables are as laid.
-/
import Derived.Test.YtbhhhkilljnkfaaDoorG10
import Derived.Test.YtbhhhkilljnkfaaDoorG6
import Derived.Test.YtbhhhkilljnkfaaDoorG1
import Derived.Test.YtbhhhkilljnkfaaDoorG11
/- Bits turned within 32 side by side, and the check: plain. No condition. -/
namespace Go.Proofs.YtbhhhkilljnkfaaDoor
open Go.RowKit Go.BigFrame
set_option linter.unusedVariables false
set_option linter.unusedSimpArgs false

theorem xor_u8 (a b : Nat) (ha : a < 256) (hb : b < 256) : bits BinOp.xor IntKind.u8 (a : Int) (b : Int) = ((a ^^^ b : Nat) : Int) := u8_xor_nat a b ha hb
/-- one bit turned -/
def flip (x : List UInt8) (n : Nat) : List UInt8 := x.set (n / 8) (x.getD (n / 8) 0 ^^^ UInt8.ofNat (2 ^ (n % 8)))
theorem flip_length (x : List UInt8) (n : Nat) : (flip x n).length = x.length := by simp [flip]
theorem pow_lt_256 (m : Nat) (h : m < 8) : 2 ^ m < 256 := by
  have := Nat.pow_lt_pow_right (a := 2) (by omega) h
  omega
theorem mod8_lt (n : Nat) : n % 8 < 8 := Nat.mod_lt _ (by omega)
theorem num_flip (x : List UInt8) (n : Nat) (h : n / 8 < x.length) : Crc.num (nats (flip x n)) = Crc.num (nats x) ^^^ 2 ^ n := by
  induction x generalizing n with
  | nil => simp at h
  | cons c x ih =>
    by_cases h8 : n < 8
    · have e : n / 8 = 0 := by omega
      have e2 : n % 8 = n := by omega
      have hc : c.toNat < 2 ^ 8 := c.toNat_lt
      have hp : 2 ^ n < 2 ^ 8 := Nat.pow_lt_pow_right (by omega) h8
      have hx : c.toNat ^^^ 2 ^ n < 2 ^ 8 := Nat.xor_lt_two_pow hc hp
      unfold flip
      rw [e, e2]
      simp only [List.set_cons_zero, List.getD_cons_zero, nats, List.map_cons, Crc.num, UInt8.toNat_xor, UInt8.toNat_ofNat']
      rw [Nat.mod_eq_of_lt hp, show (c.toNat ^^^ 2 ^ n) + 256 * Crc.num (List.map (fun x => x.toNat) x) = 2 ^ 8 * Crc.num (List.map (fun x => x.toNat) x) + (c.toNat ^^^ 2 ^ n) by omega, ← Crc.xor_or_shift 8 _ _ hx,
        show c.toNat + 256 * Crc.num (List.map (fun x => x.toNat) x) = 2 ^ 8 * Crc.num (List.map (fun x => x.toNat) x) + c.toNat by omega, ← Crc.xor_or_shift 8 _ _ hc, Nat.xor_assoc]
    · have e : n / 8 = (n - 8) / 8 + 1 := by omega
      have e2 : n % 8 = (n - 8) % 8 := by omega
      have ih := ih (n - 8) (by simp at h; omega)
      have hc : c.toNat < 2 ^ 8 := c.toNat_lt
      have hf : flip (c :: x) n = c :: flip x (n - 8) := by
        unfold flip
        rw [e, e2]
        simp
      rw [hf]
      have hn : ∀ l : List UInt8, Crc.num (nats (c :: l)) = 2 ^ 8 * Crc.num (nats l) ^^^ c.toNat := by
        intro l
        rw [Crc.xor_or_shift 8 _ _ hc]
        simp only [nats, List.map_cons, Crc.num]
        omega
      have hp : 2 ^ n = 2 ^ 8 * 2 ^ (n - 8) := by rw [← Nat.pow_add]; congr 1; omega
      rw [hn, hn, ih, hp]
      have hs : ∀ a b : Nat, 2 ^ 8 * (a ^^^ b) = 2 ^ 8 * a ^^^ 2 ^ 8 * b := by
        intro a b
        apply Nat.eq_of_testBit_eq; intro i
        simp only [Nat.testBit_xor, Nat.testBit_two_pow_mul]
        cases decide (8 ≤ i) <;> simp
      rw [hs, Nat.xor_assoc, Nat.xor_comm (2 ^ 8 * 2 ^ (n - 8)), ← Nat.xor_assoc]

theorem shl_xor (k a b : Nat) : 2 ^ k * (a ^^^ b) = 2 ^ k * a ^^^ 2 ^ k * b := by
  apply Nat.eq_of_testBit_eq; intro i
  simp only [Nat.testBit_xor, Nat.testBit_two_pow_mul]
  cases decide (k ≤ i) <;> simp

/-- the bits that the law turns, after so many rounds -/
def hits (first burst bits K : Nat) : Bool := decide (first + K < bits) && decide (burst / 2 ^ K % 2 = 1)
def turned (b : List UInt8) (first burst bits : Nat) : Nat → List UInt8
  | 0 => b
  | K + 1 => if hits first burst bits K = true then flip (turned b first burst bits K) (first + K) else turned b first burst bits K
def mask (first burst bits : Nat) : Nat → Nat
  | 0 => 0
  | K + 1 => if hits first burst bits K = true then mask first burst bits K ^^^ 2 ^ K else mask first burst bits K
theorem turned_length (b : List UInt8) (first burst bits K : Nat) : (turned b first burst bits K).length = b.length := by
  induction K with
  | zero => rfl
  | succ K ih => unfold turned; split <;> simp [flip_length, ih]
theorem mask_lt (first burst bits K : Nat) : mask first burst bits K < 2 ^ K := by
  induction K with
  | zero => simp [mask]
  | succ K ih =>
    have h1 : mask first burst bits K < 2 ^ (K + 1) := by rw [Nat.pow_succ]; omega
    unfold mask
    split
    · exact Nat.xor_lt_two_pow h1 (by rw [Nat.pow_succ]; have := Nat.two_pow_pos K; omega)
    · exact h1
theorem num_turned (b : List UInt8) (first burst K : Nat) : Crc.num (nats (turned b first burst (8 * b.length) K)) = Crc.num (nats b) ^^^ 2 ^ first * mask first burst (8 * b.length) K := by
  induction K with
  | zero => simp [turned, mask]
  | succ K ih =>
    unfold turned mask
    split
    · rename_i h
      have hlt : first + K < 8 * b.length := by simp [hits] at h; exact h.1
      rw [num_flip _ _ (by rw [turned_length]; omega), ih, shl_xor, Nat.xor_assoc, ← Nat.pow_add]
    · exact ih
theorem burst_tells (b : List UInt8) (first burst : Nat) (hf : first ≤ 8 * b.length) :
    decide (Crc.sum (nats (turned b first burst (8 * b.length) 32)) = Crc.sum (nats b)) = decide (turned b first burst (8 * b.length) 32 = b) := by
  by_cases h : turned b first burst (8 * b.length) 32 = b
  · rw [h]; simp
  · rw [decide_eq_false h]
    apply decide_eq_false
    intro he
    apply h
    have hl := turned_length b first burst (8 * b.length) 32
    have := Crc.sum_burst (nats (turned b first burst (8 * b.length) 32)) (nats b) (by rw [nats_length, nats_length, hl]) (nats_lt _) (nats_lt _) first (mask first burst (8 * b.length) 32)
      (mask_lt _ _ _ 32) (by rw [nats_length, hl]; exact hf) (by rw [num_turned, Nat.xor_comm, ← Nat.xor_assoc, Nat.xor_self, Nat.zero_xor]) he
    unfold nats at this
    exact (List.map_inj_right (fun x y h => UInt8.toNat_inj.1 h)).1 this

theorem hit_yes (b k : Nat) (h : b / 2 ^ k % 2 = 1) : (((b : Int) / 2 ^ k).tmod 2 == 1) = true := by
  have e : ((b : Int) / 2 ^ k) = ((b / 2 ^ k : Nat) : Int) := by rw [Int.natCast_ediv]; simp
  rw [e, beq_iff_eq, Int.tmod_eq_emod_of_nonneg (Int.natCast_nonneg _)]
  generalize b / 2 ^ k = m at *
  omega
theorem hit_no (b k : Nat) (h : ¬ b / 2 ^ k % 2 = 1) : (((b : Int) / 2 ^ k).tmod 2 == 1) = false := by
  have e : ((b : Int) / 2 ^ k) = ((b / 2 ^ k : Nat) : Int) := by rw [Int.natCast_ediv]; simp
  rw [e, beq_eq_false_iff_ne, Int.tmod_eq_emod_of_nonneg (Int.natCast_nonneg _)]
  generalize b / 2 ^ k = m at *
  omega
theorem flip_u8 (x : UInt8) (m : Nat) (h : m < 8) : bits BinOp.xor IntKind.u8 ((x.toNat : Nat) : Int) ((2 : Int) ^ m % 256) = (((x ^^^ UInt8.ofNat (2 ^ m)).toNat : Nat) : Int) := by
  have h1 := pow_lt_256 m h
  have e : ((2 : Int) ^ m % 256) = ((2 ^ m : Nat) : Int) := by
    have : ((2 : Int) ^ m) = ((2 ^ m : Nat) : Int) := by simp
    rw [this]
    generalize 2 ^ m = q at *
    omega
  rw [e, xor_u8 _ _ x.toNat_lt h1, UInt8.toNat_xor, UInt8.toNat_ofNat', Nat.mod_eq_of_lt h1]

/-- is a bit turned within so many rounds? -/
def chg (first burst bits : Nat) : Nat → Bool
  | 0 => false
  | K + 1 => chg first burst bits K || hits first burst bits K
theorem chg_no (b : List UInt8) (first burst bits : Nat) : ∀ K, chg first burst bits K = false → turned b first burst bits K = b
  | 0, _ => rfl
  | K + 1, h => by
    rw [chg, Bool.or_eq_false_iff] at h
    rw [turned, if_neg (by rw [h.2]; simp), chg_no b first burst bits K h.1]
theorem chg_mask (first burst bits : Nat) : ∀ K, chg first burst bits K = true → mask first burst bits K ≠ 0
  | 0, h => by simp [chg] at h
  | K + 1, h => by
    rw [chg, Bool.or_eq_true] at h
    have hlt := mask_lt first burst bits K
    unfold mask
    split
    · intro h0
      have he := Crc.eq_of_xor h0
      omega
    · rename_i hn
      rcases h with h | h
      · exact chg_mask first burst bits K h
      · exact absurd h hn
theorem chg_yes (b : List UInt8) (first burst K : Nat) (h : chg first burst (8 * b.length) K = true) : turned b first burst (8 * b.length) K ≠ b := by
  intro he
  have hn := num_turned b first burst K
  rw [he] at hn
  have h0 : 2 ^ first * mask first burst (8 * b.length) K = 0 := by
    have h2 : Crc.num (nats b) ^^^ Crc.num (nats b) = Crc.num (nats b) ^^^ (Crc.num (nats b) ^^^ 2 ^ first * mask first burst (8 * b.length) K) := by rw [← hn]
    rw [Nat.xor_self, ← Nat.xor_assoc, Nat.xor_self, Nat.zero_xor] at h2
    exact h2.symm
  have := chg_mask first burst (8 * b.length) K h
  have hp : 0 < 2 ^ first := Nat.two_pow_pos first
  rcases Nat.mul_eq_zero.1 h0 with h1 | h1
  · omega
  · exact this h1
theorem num_le4 (S : Nat) (h : S < 4294967296) : Crc.num (nats (le4 S)) = S := by
  have hb : ∀ m : Nat, (UInt8.ofNat (m % 256)).toNat = m % 256 := fun m => by rw [UInt8.toNat_ofNat']; omega
  unfold le4 nats
  simp only [List.map_cons, List.map_nil, Crc.num, hb]
  omega
/-- the check of a checked body is always the same -/
theorem residue (l : List UInt8) : Crc.sum (nats (checked l)) = 4294967295 ^^^ Crc.bits 32 4294967295 := by
  have hS := sum_lt l
  have e : nats (checked l) = nats l ++ nats (le4 (Crc.sum (nats l))) := by simp [checked, nats]
  unfold Crc.sum at hS ⊢
  rw [e, Crc.upd_append]
  have hu : Crc.upd 0 (nats l) = Crc.sum (nats l) := rfl
  rw [hu] at hS ⊢
  generalize hSS : Crc.sum (nats l) = S at hS ⊢
  unfold Crc.upd
  rw [Crc.fast_slow, Crc.bits_slow _ _ (nats_lt _), num_le4 _ hS, nats_length, le4_length, Nat.xor_assoc, Nat.xor_self, Nat.xor_zero]
theorem burst_refused (bd : List UInt8) (first burst : Nat) (hf : first ≤ 8 * (checked bd).length) (hc : chg first burst (8 * (checked bd).length) 32 = true) :
    let x := turned (checked bd) first burst (8 * (checked bd).length) 32
    Crc.sum (nats (x.take (x.length - 4))) ≠ le (x.drop (x.length - 4)) := by
  intro x h
  have hne := chg_yes (checked bd) first burst 32 hc
  have hl : x.length = (checked bd).length := turned_length _ _ _ _ _
  have hl4 : (checked bd).length = bd.length + 4 := by unfold checked; rw [List.length_append, le4_length]
  have hd : (x.drop (x.length - 4)).length = 4 := by rw [List.length_drop]; omega
  have hx : x = checked (x.take (x.length - 4)) := by
    unfold checked
    rw [h, le4_le _ hd, List.take_append_drop]
  have hs : Crc.sum (nats x) = Crc.sum (nats (checked bd)) := by
    rw [hx, residue, residue]
  have ht := burst_tells (checked bd) first burst hf
  have hs' : decide (Crc.sum (nats (turned (checked bd) first burst (8 * (checked bd).length) 32)) = Crc.sum (nats (checked bd))) = true := decide_eq_true hs
  rw [hs'] at ht
  exact hne (of_decide_eq_true ht.symm)
/-- what a changed body is read as -/
theorem burst_dec (bd : List UInt8) (first burst : Nat) (hf : first ≤ 8 * (checked bd).length) (hc : chg first burst (8 * (checked bd).length) 32 = true) :
    decF (stuffOf (turned (checked bd) first burst (8 * (checked bd).length) 32)) = .error (if 2200 < (stuffOf (turned (checked bd) first burst (8 * (checked bd).length) 32)).length then 2 else if (checked bd).length < 5 then 30 else 120) := by
  have h := burst_refused bd first burst hf hc
  have hl : (turned (checked bd) first burst (8 * (checked bd).length) 32).length = (checked bd).length := turned_length _ _ _ _ _
  simp only at h
  generalize turned (checked bd) first burst (8 * (checked bd).length) 32 = x at h hl ⊢
  unfold decF
  rw [unstuff_stuff]
  simp only [ne_eq, not_true, if_false]
  split
  · rfl
  · rw [hl]
    split
    · rfl
    · rw [hl] at h
      try rw [if_pos h]
end Go.Proofs.YtbhhhkilljnkfaaDoor
/- The walk of the document's Stuff. Condition: the bytes read as a list. -/
namespace Go.Proofs.YtbhhhkilljnkfaaDoor
open Go.RowKit Go.BigFrame
set_option linter.unusedVariables false
set_option linter.unusedSimpArgs false
set_option linter.unusedSectionVars false

structure RefRel (w : World) (b : List UInt8) (v a o : Value) (wr : World) : Prop where
  out : ∃ (at_ : Nat) (st : List UInt8) (op : Bool), at_ ≤ b.length ∧ a = .int .i64 (at_ : Int) ∧ o = .bool op ∧ OwnB 5 wr w.heap.size v st ∧ st.length ≤ 2 * at_ + 2 ∧
    (if op = true then st ++ stuffOf (b.drop at_) = stuffOf b ∧ st.length ≤ 2 * at_ else st = stuffOf b) ∧ Keeps w wr
def openV (n : Nat) (a o : Value) : Nat := match o with | .bool true => n - (intOf a).toNat + 1 | _ => 0

theorem grp_get (l : List UInt8) (k : Nat) (h : k < (grp l).length) : ∃ h2 : k < l.length, l[k]'h2 ≠ 0 ∧ l[k]'h2 = (grp l)[k]'h := by
  have hl := grp_le l
  have h2 : k < l.length := by omega
  have e : l[k]? = (grp l ++ l.drop (grp l).length)[k]? := congrArg (fun x : List UInt8 => x[k]?) (grp_append l)
  rw [List.getElem?_append_left h, List.getElem?_eq_getElem h2, List.getElem?_eq_getElem h] at e
  injection e with e
  refine ⟨h2, ?_, e⟩
  rw [e]
  intro e0
  exact grp_no l (by rw [← e0]; exact List.getElem_mem h)

theorem step_last {st l S : List UInt8} {cb : UInt8} (h : l.length ≤ (grp l).length) (hs : st ++ stuffOf l = S) (hc : cb = UInt8.ofNat ((grp l).length + 1)) : st ++ [cb] ++ grp l = S := by
  obtain ⟨e1, e2⟩ := stuff_last l h
  rw [← hs, e2, hc, e1]
  simp
theorem step_less {st l S : List UInt8} {cb : UInt8} (h : (grp l).length < l.length) (h2 : (grp l).length < 254) (hs : st ++ stuffOf l = S) (hc : cb = UInt8.ofNat ((grp l).length + 1)) : st ++ [cb] ++ grp l ++ stuffOf (l.drop ((grp l).length + 1)) = S := by
  rw [← hs, (stuff_less l h h2).2, hc]
  simp
theorem step_full {st l S : List UInt8} {cb : UInt8} (h : (grp l).length < l.length) (h2 : (grp l).length = 254) (hs : st ++ stuffOf l = S) (hc : cb = UInt8.ofNat ((grp l).length + 1)) : st ++ [cb] ++ grp l ++ stuffOf (l.drop (grp l).length) = S := by
  rw [← hs, (stuff_full l h h2).2.2, hc, h2]
  simp

section
variable {w wr : World} {b l st : List UInt8} {cb : UInt8} {v : Value} {at_ q : Nat} (hN : q = (grp l).length) (hLL : at_ + l.length = b.length) (hL : l = b.drop at_) (hS : st ++ stuffOf l = stuffOf b) (hC : cb = UInt8.ofNat (q + 1)) (hsl : st.length ≤ 2 * at_)
  (hF : OwnB 5 wr w.heap.size v (st ++ [cb] ++ grp l)) (hK : Keeps w wr)
include hN hLL hL hS hC hsl hF hK
theorem len_step : (st ++ [cb] ++ grp l).length = st.length + 1 + q := by rw [List.length_append, List.length_append, ← hN]; rfl
theorem close_last (h : ¬ at_ + q < b.length) : RefRel w b v (.int .i64 ((at_ : Int) + (q : Int))) (.bool (decide ((at_ : Int) + (q : Int) < (b.length : Int)))) wr ∧
    openV b.length (.int .i64 ((at_ : Int) + (q : Int))) (.bool (decide ((at_ : Int) + (q : Int) < (b.length : Int)))) < openV b.length (.int .i64 (at_ : Int)) (.bool true) := by
  have hd : decide ((at_ : Int) + (q : Int) < (b.length : Int)) = false := by rw [decide_eq_false_iff_not]; omega
  have hq := (grp_le l).2
  have hlen := len_step hN hLL hL hS hC hsl hF hK
  rw [hd]
  refine ⟨.mk ⟨at_ + q, _, false, by omega, by go_num, rfl, hF, by rw [hlen]; omega, ?_, hK⟩, by simp [openV]⟩
  simp only [Bool.false_eq_true, if_false]
  exact step_last (by omega) hS (by rw [hC, hN])
theorem close_full (h : at_ + q < b.length) (h2 : ¬ q < 254) : RefRel w b v (.int .i64 ((at_ : Int) + (q : Int))) (.bool true) wr ∧
    openV b.length (.int .i64 ((at_ : Int) + (q : Int))) (.bool true) < openV b.length (.int .i64 (at_ : Int)) (.bool true) := by
  have hq := grp_le l
  have hlen := len_step hN hLL hL hS hC hsl hF hK
  refine ⟨.mk ⟨at_ + q, _, true, by omega, by go_num, rfl, hF, by rw [hlen]; omega, ?_, hK⟩, by simp [openV, intOf]; omega⟩
  simp only [if_true]
  refine ⟨?_, by rw [hlen]; omega⟩
  have := step_full (st := st) (cb := cb) (by omega) (by omega) hS (by rw [hC, hN])
  rw [← hN] at this
  rw [← this, hL, List.drop_drop]
theorem close_less (h : at_ + q < b.length) (h2 : q < 254) : RefRel w b v (.int .i64 ((at_ : Int) + (q : Int) + 1)) (.bool true) wr ∧
    openV b.length (.int .i64 ((at_ : Int) + (q : Int) + 1)) (.bool true) < openV b.length (.int .i64 (at_ : Int)) (.bool true) := by
  have hq := grp_le l
  have hlen := len_step hN hLL hL hS hC hsl hF hK
  refine ⟨.mk ⟨at_ + q + 1, _, true, by omega, by go_num, rfl, hF, by rw [hlen]; omega, ?_, hK⟩, by simp [openV, intOf]; omega⟩
  simp only [if_true]
  refine ⟨?_, by rw [hlen]; omega⟩
  have := step_less (st := st) (cb := cb) (by omega) (by omega) hS (by rw [hC, hN])
  rw [← hN] at this
  rw [← this, hL, List.drop_drop]
  rfl
end

set_option maxRecDepth 100000 in
set_option maxHeartbeats 4000000 in
theorem refStuff_calls (A : Option Addr) (c : Nat) (b : List UInt8) (w : World) (hl : b.length ≤ 274877906944) (hr : Reads w A b) :
    Calls Tryd.prog 15 #[.slice A b.length c] w fun e w' => ∃ v, e = .returned v ∧ OwnB 5 w' w.heap.size v (stuffOf b) ∧ Keeps w w' := by
  have HR := Lib.hid hr
  clear hr
  go_enter Tryd.func15, Tryd.ntmps15
  go_wp2
  go_loopw [3, 4, 5] (fun v a o wr => RefRel w b v a o wr) (fun _ a o _ => openV b.length a o)
  case atStart => exact ⟨0, [], true, Nat.zero_le _, rfl, rfl, OwnB.nil _ _ _, by simp, by simp, Keeps.refl _⟩
  case round =>
    obtain ⟨at_, st, op, hat, rfl, rfl, hown, hsl, hop, hk⟩ := hrel
    have HO := Lib.hid hown
    have HK := Lib.hid hk
    clear hown hk
    cases op with
    | false =>
      have HOP := Lib.hid (show st = stuffOf b by simpa using hop)
      clear hop
      go_wp2
      go_ret
      refine ⟨_, rfl, ?_, HK.out⟩
      rw [← HOP.out]
      exact HO.out
    | true =>
      obtain ⟨hst, hsl2⟩ : st ++ stuffOf (b.drop at_) = stuffOf b ∧ st.length ≤ 2 * at_ := by simpa using hop
      obtain ⟨l, hl1⟩ : ∃ l, l = b.drop at_ := ⟨_, rfl⟩
      rw [← hl1] at hst
      have hll : at_ + l.length = b.length := by rw [hl1, List.length_drop]; omega
      have hgl := grp_le l
      have hgget : ∀ k (h : k < (grp l).length), ∃ hb : at_ + k < b.length, b[at_ + k]'hb ≠ 0 ∧ b[at_ + k]'hb = (grp l)[k]'h := by
        intro k h
        obtain ⟨h2, h3, h4⟩ := grp_get l k h
        have e : ∀ hb : at_ + k < b.length, b[at_ + k]'hb = l[k]'h2 := by intro hb; subst hl1; rw [List.getElem_drop]
        exact ⟨by omega, by rw [e]; exact h3, by rw [e]; exact h4⟩
      have hgstop : (grp l).length < 254 → (grp l).length < l.length → ∃ hb : at_ + (grp l).length < b.length, b[at_ + (grp l).length]'hb = 0 := by
        intro h1 h2
        have := grp_stop l h1 h2
        subst hl1
        rw [List.getElem_drop] at this
        exact ⟨by omega, this⟩
      have HST := Lib.hid hst
      have HG := Lib.hid hgget
      have HS := Lib.hid hgstop
      have HL1 := Lib.hid hl1
      have HLL := Lib.hid hll
      clear hst hgget hgstop hop hl1
      have hgb : at_ + (grp l).length ≤ b.length := by omega
      clear hll
      obtain ⟨n, hn⟩ : ∃ n, n = (grp l).length := ⟨_, rfl⟩
      rw [← hn] at hgl hgb
      have HN := Lib.hid hn
      clear hn
      go_wp2
      go_loopw [6] (fun k wz => ∃ q : Nat, q ≤ n ∧ k = .int .i64 (q : Int) ∧ wz = wr) (fun k _ => n - (intOf k).toNat)
      case atStart => exact ⟨0, Nat.zero_le _, rfl, rfl⟩
      case round =>
        obtain ⟨q, hq, rfl, rfl⟩ := hrel
        by_cases hqn : q < n
        · obtain ⟨hb, h1, h2⟩ := HG.out q (by rw [← HN.out]; exact hqn)
          obtain ⟨ad, rfl, hc⟩ := (HR.out.below HK.out.below).out (at_ + q) hb
          have hz : ((((b[at_ + q]'hb).toNat : Nat) : Int) != 0) = true := by
            rw [bne_iff_ne]; intro e; apply h1; exact UInt8.toNat_inj.1 (by simpa using e)
          clear h1 h2
          go_wp2
          exact ⟨⟨q + 1, by omega, by go_num, trivial⟩, by simp [intOf]; omega⟩
        · obtain rfl : q = n := by omega
          clear hqn hq
          obtain ⟨cb, hcb⟩ : ∃ cb, cb = UInt8.ofNat (q + 1) := ⟨_, rfl⟩
          have HU := Lib.hid (show cb.toNat = q + 1 by rw [hcb]; exact ofNat_toNat q hgl.1)
          have HCB := Lib.hid hcb
          have hcv : IntKind.u8.wrap ((q : Int) + 1) = (q : Int) + 1 := by simp [IntKind.wrap, IntKind.bits, IntKind.signed]; omega
          clear hcb
          have hcase : (¬ q < 254 ∧ ¬ at_ + q < b.length) ∨ (¬ q < 254 ∧ at_ + q < b.length) ∨ (q < 254 ∧ ¬ at_ + q < b.length) ∨ (q < 254 ∧ at_ + q < b.length ∧ ∃ ad, A = some ad ∧ wr.cell? (ad.add (at_ + q)) = some (.int .u8 0)) := by
            by_cases h1 : q < 254
            · by_cases h2 : at_ + q < b.length
              · refine .inr (.inr (.inr ⟨h1, h2, ?_⟩))
                obtain ⟨hb, hz⟩ := HS.out (by rw [← HN.out]; exact h1) (by rw [← HN.out]; have := HLL.out; omega)
                simp only [← HN.out] at hb hz
                obtain ⟨ad, e, hc⟩ := (HR.out.below HK.out.below).out (at_ + q) hb
                rw [hz] at hc
                exact ⟨ad, e, hc⟩
              · exact .inr (.inr (.inl ⟨h1, h2⟩))
            · by_cases h2 : at_ + q < b.length
              · exact .inr (.inl ⟨h1, h2⟩)
              · exact .inl ⟨h1, h2⟩
          rcases hcase with ⟨k1, k2⟩ | ⟨k1, k2⟩ | ⟨k1, k2⟩ | ⟨k1, k2, ad, rfl, k3⟩
          all_goals
            go_wp2_with (at_builtin; refine wpList_append_bytes (w0 := w) w.heap.size rfl _ _ 22 5 rfl Tryd.underlying22 info_u8 _ st [cb] rfl (HO.out.below ((Keeps.refl _).alloc _).below) _ 1 rfl (Reads.new_at _ [cb] 5 (0, 0) #[.int .u8 ((q : Int) + 1)] (by rw [show u8s [cb] = [.int .u8 ((cb.toNat : Nat) : Int)] from rfl, HU.out]; rfl) _ (by simp)) (by simp; omega) (by have := HK.out.size; simp; omega) (HK.out.alloc _) ?_)
            intro v1 w1 hown1 hb1 _ _
            have HO1 := Lib.hid hown1
            have HK1 := Lib.hid (show Keeps w w1 from hb1)
            clear hown1 hb1 hcv
            go_wp2
            go_loopw [3, 7] (fun v i wz => ∃ m : Nat, m ≤ q ∧ i = .int .i64 (m : Int) ∧ OwnB 5 wz w.heap.size v (st ++ [cb] ++ (grp l).take m) ∧ Keeps w wz) (fun _ i _ => q - (intOf i).toNat)
            case atStart => exact ⟨0, Nat.zero_le _, rfl, by simpa using HO1.out, HK1.out⟩
          all_goals
            obtain ⟨m, hm, rfl, ho2, hk2⟩ := hrel
            have HO2 := Lib.hid ho2
            have HK2 := Lib.hid hk2
            clear ho2 hk2
            by_cases hmq : m < q
            · obtain ⟨hb, h1, h2⟩ := HG.out m (by rw [← HN.out]; exact hmq)
              obtain ⟨ad2, e, hc⟩ := (HR.out.below HK2.out.below).out (at_ + m) hb
              cases e
              have hlen2 : ((grp l).take m).length ≤ 254 := by rw [List.length_take]; omega
              have hnx : (grp l).take (m + 1) = (grp l).take m ++ [b[at_ + m]'hb] := by rw [List.take_succ_eq_append_getElem (by rw [← HN.out]; exact hmq), h2]
              have HNX := Lib.hid hnx
              clear h1 h2 hnx
              go_wp2_with (at_builtin; refine wpList_append_bytes (w0 := w) w.heap.size rfl _ _ 22 5 rfl Tryd.underlying22 info_u8 _ (st ++ [cb] ++ (grp l).take m) [b[at_ + m]'hb] rfl (HO2.out.below ((Keeps.refl _).alloc _).below) _ 1 rfl (Reads.new_at _ [b[at_ + m]'hb] 5 (0, 0) #[.int .u8 (((b[at_ + m]'hb).toNat : Nat) : Int)] rfl _ (by simp)) (by rw [List.length_append, List.length_append]; simp only [List.length_cons, List.length_nil]; omega) (by have := HK2.out.size; simp; omega) (HK2.out.alloc _) ?_)
              intro v2 w2 hown2 hb2 _ _
              have HO3 := Lib.hid hown2
              have HK3 := Lib.hid (show Keeps w w2 from hb2)
              clear hown2 hb2
              go_wp2
              exact ⟨⟨m + 1, by omega, by go_num, by rw [HNX.out]; have := HO3.out; simpa [List.append_assoc] using this, HK3.out⟩, by simp [intOf]; omega⟩
            · have hfin := HO2.out
              rw [List.take_of_length_le (by rw [← HN.out]; omega)] at hfin
              have HF := Lib.hid hfin
              clear hfin HO2
              go_wp2
              all_goals first
                | exact close_last HN.out HLL.out HL1.out HST.out HCB.out hsl2 HF.out HK2.out k2
                | exact close_full HN.out HLL.out HL1.out HST.out HCB.out hsl2 HF.out HK2.out k2 k1
                | exact close_less HN.out HLL.out HL1.out HST.out HCB.out hsl2 HF.out HK2.out k2 k1
end Go.Proofs.YtbhhhkilljnkfaaDoor
/- The walk of the document's Unstuff. Condition: the bytes read as a list. -/
namespace Go.Proofs.YtbhhhkilljnkfaaDoor
open Go.RowKit Go.BigFrame
set_option linter.unusedVariables false
set_option linter.unusedSimpArgs false
set_option linter.unusedSectionVars false

theorem nz_get (l : List UInt8) (k : Nat) (h : k < (nz l).length) : ∃ h2 : k < l.length, l[k]'h2 ≠ 0 := by
  have hl := nz_le l
  have h2 : k < l.length := by omega
  have e : l[k]? = (nz l ++ l.drop (nz l).length)[k]? := congrArg (fun x : List UInt8 => x[k]?) (nz_append l)
  rw [List.getElem?_append_left h, List.getElem?_eq_getElem h2, List.getElem?_eq_getElem h] at e
  injection e with e
  refine ⟨h2, ?_⟩
  rw [e]
  intro e0
  exact nz_no l (by rw [← e0]; exact List.getElem_mem h)

def endOf (last ahead : Nat) (b : List UInt8) : List UInt8 × Int := if last = 1 ∧ ahead = 255 then ([], 5) else (b, 0)
structure URel (w : World) (s : List UInt8) (v a la ah : Value) (wr : World) : Prop where
  out : ∃ (at_ last ahead : Nat) (b : List UInt8), at_ ≤ s.length ∧ a = .int .i64 (at_ : Int) ∧ la = .int .i64 (last : Int) ∧ ah = .int .i64 (ahead : Int) ∧ last ≤ 255 ∧ ahead ≤ 255 ∧ OwnB 5 wr w.heap.size v b ∧ b.length ≤ at_ ∧
    (at_ < s.length → unGo (s.drop at_) b (last == 255) = unstuffOf s) ∧ (¬ at_ < s.length → endOf last ahead b = unstuffOf s) ∧ Keeps w wr

section
variable {w wr : World} {s t b : List UInt8} {v : Value} {at_ last q : Nat} {full : Bool} (hlt : at_ + 1 + t.length = s.length) (ht : t = s.drop (at_ + 1)) (hq : q ≤ 254) (ha : ¬ t.length < q) (hbl : b.length ≤ at_) (hla : last ≤ 255)
  (hgo : (if t.length < q then (([] : List UInt8), (30 : Int)) else if t.length ≤ q then (if (last == 255) && q == 0 then ([], 5) else (b ++ t.take q, 0)) else unGo (t.drop q) (b ++ t.take q ++ (if q = 254 then [] else [0])) (q == 254)) = unstuffOf s) (hK : Keeps w wr)
include hlt ht hq ha hbl hla hgo hK
theorem u_end (h : t.length ≤ q) (hF : OwnB 5 wr w.heap.size v (b ++ t.take q)) : URel w s v (.int .i64 ((at_ : Int) + (q : Int) + 1)) (.int .i64 ((q : Int) + 1)) (.int .i64 (last : Int)) wr := by
  rw [if_neg ha, if_pos h] at hgo
  have hlen : (b ++ t.take q).length = b.length + q := by rw [List.length_append, List.length_take]; omega
  refine .mk ⟨at_ + q + 1, q + 1, last, _, by omega, by go_num, by go_num, rfl, by omega, hla, hF, by rw [hlen]; omega, fun h => by omega, fun _ => ?_, hK⟩
  rw [← hgo]
  unfold endOf
  by_cases h1 : last = 255 ∧ q = 0
  · rw [if_pos ⟨by omega, h1.1⟩, if_pos (by simp [h1.1, h1.2])]
  · rw [if_neg (fun h => h1 ⟨h.2, by omega⟩), if_neg (by simp only [Bool.and_eq_true, beq_iff_eq]; exact h1)]
theorem u_less (h : ¬ t.length ≤ q) (h2 : q < 254) (hF : OwnB 5 wr w.heap.size v (b ++ t.take q ++ [0])) : URel w s v (.int .i64 ((at_ : Int) + (q : Int) + 1)) (.int .i64 ((q : Int) + 1)) (.int .i64 (last : Int)) wr := by
  rw [if_neg ha, if_neg h, if_neg (show ¬ q = 254 by omega)] at hgo
  have hlen : (b ++ t.take q ++ [0]).length = b.length + q + 1 := by rw [List.length_append, List.length_append, List.length_take]; simp only [List.length_cons, List.length_nil]; omega
  refine .mk ⟨at_ + q + 1, q + 1, last, _, by omega, by go_num, by go_num, rfl, by omega, hla, hF, by rw [hlen]; omega, fun _ => ?_, fun h => by omega, hK⟩
  rw [← hgo, ht, List.drop_drop, show at_ + 1 + q = at_ + q + 1 by omega]
  congr 1
  rw [Bool.eq_iff_iff]
  simp
theorem u_full (h : ¬ t.length ≤ q) (h2 : ¬ q < 254) (hF : OwnB 5 wr w.heap.size v (b ++ t.take q)) : URel w s v (.int .i64 ((at_ : Int) + (q : Int) + 1)) (.int .i64 ((q : Int) + 1)) (.int .i64 (last : Int)) wr := by
  rw [if_neg ha, if_neg h, if_pos (show q = 254 by omega), List.append_nil] at hgo
  have hlen : (b ++ t.take q).length = b.length + q := by rw [List.length_append, List.length_take]; omega
  refine .mk ⟨at_ + q + 1, q + 1, last, _, by omega, by go_num, by go_num, rfl, by omega, hla, hF, by rw [hlen]; omega, fun _ => ?_, fun h => by omega, hK⟩
  rw [← hgo, ht, List.drop_drop, show at_ + 1 + q = at_ + q + 1 by omega]
  congr 1
  rw [Bool.eq_iff_iff]
  simp
end

set_option maxRecDepth 100000 in
set_option maxHeartbeats 4000000 in
theorem refUnstuff_calls (A : Option Addr) (c : Nat) (s : List UInt8) (w : World) (hl : s.length ≤ 274877906944) (hr : Reads w A s) :
    Calls Tryd.prog 14 #[.slice A s.length c] w (UnPost w (unstuffOf s)) := by
  have HR := Lib.hid hr
  have hnl := nz_le s
  clear hr
  go_enter Tryd.func14, Tryd.ntmps14
  go_wp2
  go_loopw [4] (fun i wz => ∃ k : Nat, k ≤ (nz s).length ∧ i = .int .i64 (k : Int) ∧ w = wz) (fun i _ => s.length - (intOf i).toNat)
  case atStart => exact ⟨0, Nat.zero_le _, rfl, rfl⟩
  case round =>
    obtain ⟨k, hk, rfl, rfl⟩ := hrel
    by_cases hkn : k < (nz s).length
    · obtain ⟨h2, h3⟩ := nz_get s k hkn
      obtain ⟨ad, rfl, hc⟩ := HR.out.out k h2
      have hz : ((((s[k]'h2).toNat : Nat) : Int) == 0) = false := by
        rw [beq_eq_false_iff_ne]; intro e; apply h3; exact UInt8.toNat_inj.1 (by simpa using e)
      clear h3
      go_wp2
      exact ⟨⟨k + 1, by omega, by go_num, trivial⟩, by simp [intOf]; omega⟩
    · by_cases hks : k < s.length
      · have hmem : (0 : UInt8) ∈ s := (nz_mem s).2 (by omega)
        have hz0 := nz_stop s (by omega)
        have hke : k = (nz s).length := by omega
        rw [← hke, List.getD_eq_getElem?_getD, List.getElem?_eq_getElem hks] at hz0
        simp only [Option.getD_some] at hz0
        obtain ⟨ad, rfl, hc⟩ := HR.out.out k hks
        rw [hz0] at hc
        have HU := Lib.hid (show unstuffOf s = ([], 40) by unfold unstuffOf; rw [if_pos hmem])
        clear hz0 hke hmem
        go_wp2
        go_ret2
        rw [HU.out]
        exact ⟨_, rfl, OwnB.nil _ _ _, Keeps.refl _⟩
      · have hno : (0 : UInt8) ∉ s := fun h => by have := (nz_mem s).1 h; omega
        have HNO := Lib.hid hno
        clear hno hkn
        by_cases hs0 : s.length = 0
        · have HU := Lib.hid (show unstuffOf s = ([], 30) by unfold unstuffOf; rw [if_neg HNO.out, if_pos hs0])
          go_wp2
          go_ret2
          rw [HU.out]
          exact ⟨_, rfl, OwnB.nil _ _ _, Keeps.refl _⟩
        · have HU := Lib.hid (show unGo s [] false = unstuffOf s by unfold unstuffOf; rw [if_neg HNO.out, if_neg hs0])
          have hs0' : ((s.length : Int) == 0) = false := by rw [beq_eq_false_iff_ne]; omega
          have hpos : 0 < s.length := by omega
          clear hs0
          go_wp2
          go_loopw [5, 6, 7, 8] (fun v a la ah wz => URel w s v a la ah wz) (fun _ a _ _ _ => s.length - (intOf a).toNat)
          case atStart => exact ⟨0, 0, 0, [], Nat.zero_le _, rfl, rfl, rfl, by omega, by omega, OwnB.nil _ _ _, by simp, fun _ => by simpa using HU.out, fun h => absurd hpos h, Keeps.refl _⟩
          case round =>
            obtain ⟨at_, last, ahead, b, hat, rfl, rfl, rfl, hla, hah, hown, hbl, hgo, hend, hkp⟩ := hrel
            have HO := Lib.hid hown
            have HK := Lib.hid hkp
            clear hown hkp HU
            by_cases hlt : at_ < s.length
            · have hgo2 := hgo hlt
              have hdrop := List.drop_eq_getElem_cons hlt
              obtain ⟨t, ht⟩ : ∃ t, t = s.drop (at_ + 1) := ⟨_, rfl⟩
              rw [hdrop, ← ht] at hgo2
              have htl : at_ + 1 + t.length = s.length := by rw [ht, List.length_drop]; omega
              have hc0 : (s[at_]'hlt).toNat ≠ 0 := fun e => HNO.out (by rw [show (0 : UInt8) = s[at_]'hlt from (UInt8.toNat_inj.1 (by simpa using e)).symm]; exact List.getElem_mem hlt)
              have hc1 : (s[at_]'hlt).toNat < 256 := UInt8.toNat_lt _
              obtain ⟨q, hq1⟩ : ∃ q, (s[at_]'hlt).toNat = q + 1 := ⟨(s[at_]'hlt).toNat - 1, by omega⟩
              rw [unGo_cons, hq1, Nat.add_sub_cancel] at hgo2
              have hq254 : q ≤ 254 := by omega
              obtain ⟨ad, rfl, x0⟩ := (HR.out.below HK.out.below).out at_ hlt
              rw [hq1] at x0
              have x1 : wr.cell? (ad.add at_) = some (.int .u8 ((q : Int) + 1)) := x0
              have HGO := Lib.hid hgo2
              have HT := Lib.hid ht
              have HTL := Lib.hid htl
              have hts : t.length = s.length - at_ - 1 := by omega
              clear hgo hend hgo2 hdrop ht hc0 hc1 hq1 x0
              by_cases a1 : t.length < q
              · have hU : unstuffOf s = ([], 30) := by rw [← HGO.out, if_pos a1]
                have HU := Lib.hid hU
                have a2 : (s.length : Int) - (at_ : Int) - 1 < (q : Int) := by omega
                clear hU hts htl
                go_wp2
                go_ret2
                rw [HU.out]
                exact ⟨_, rfl, OwnB.nil _ _ _, HK.out⟩
              · have a2 : (q : Int) ≤ (s.length : Int) - (at_ : Int) - 1 := by omega
                have hqs : at_ + q + 1 ≤ s.length := by omega
                clear hts htl
                go_wp2
                go_loopw [5, 10] (fun v i wz => ∃ m : Nat, m ≤ q ∧ i = .int .i64 (m : Int) ∧ OwnB 5 wz w.heap.size v (b ++ t.take m) ∧ Keeps w wz) (fun _ i _ => q - (intOf i).toNat)
                case atStart => exact ⟨0, Nat.zero_le _, rfl, by simpa using HO.out, HK.out⟩
                case round =>
                  obtain ⟨m, hm, rfl, ho2, hk2⟩ := hrel
                  have HO2 := Lib.hid ho2
                  have HK2 := Lib.hid hk2
                  clear ho2 hk2
                  by_cases hmq : m < q
                  · have hmt : m < t.length := by omega
                    have hmb : at_ + 1 + m < s.length := by have := HTL.out; omega
                    obtain ⟨ad2, e, hc⟩ := (HR.out.below HK2.out.below).out (at_ + 1 + m) hmb
                    cases e
                    have hlen2 : (b ++ t.take m).length ≤ 549755813888 := by rw [List.length_append, List.length_take]; omega
                    have hnx : t.take (m + 1) = t.take m ++ [s[at_ + 1 + m]'hmb] := by
                      rw [List.take_succ_eq_append_getElem hmt]
                      congr 2
                      have e : t[m]? = (s.drop (at_ + 1))[m]? := congrArg (fun x : List UInt8 => x[m]?) HT.out
                      rw [List.getElem?_drop, List.getElem?_eq_getElem hmt, List.getElem?_eq_getElem hmb] at e
                      injection e
                    have HNX := Lib.hid hnx
                    clear hnx
                    go_wp2_with (at_builtin; refine wpList_append_bytes (w0 := w) w.heap.size rfl _ _ 22 5 rfl Tryd.underlying22 info_u8 _ (b ++ t.take m) [s[at_ + 1 + m]'hmb] rfl (HO2.out.below ((Keeps.refl _).alloc _).below) _ 1 rfl (Reads.new_at _ [s[at_ + 1 + m]'hmb] 5 (0, 0) #[.int .u8 (((s[at_ + 1 + m]'hmb).toNat : Nat) : Int)] rfl _ (by simp)) (by simp only [List.length_cons, List.length_nil]; omega) (by have := HK2.out.size; simp; omega) (HK2.out.alloc _) ?_)
                    intro v2 w2 hown2 hb2 _ _
                    have HO3 := Lib.hid hown2
                    have HK3 := Lib.hid (show Keeps w w2 from hb2)
                    clear hown2 hb2
                    go_wp2
                    exact ⟨⟨m + 1, by omega, by go_num, by rw [HNX.out]; have := HO3.out; simpa [List.append_assoc] using this, HK3.out⟩, by simp [intOf]; omega⟩
                  · obtain rfl : m = q := by omega
                    clear hmq hm
                    by_cases hend2 : at_ + m + 1 < s.length
                    · have hnt : ¬ t.length ≤ m := by have := HTL.out; omega
                      by_cases h254 : m < 254
                      · have hlen2 : (b ++ t.take m).length ≤ 549755813888 := by rw [List.length_append, List.length_take]; omega
                        go_wp2_with (at_builtin; refine wpList_append_bytes (w0 := w) w.heap.size rfl _ _ 22 5 rfl Tryd.underlying22 info_u8 _ (b ++ t.take m) [0] rfl (HO2.out.below ((Keeps.refl _).alloc _).below) _ 1 rfl (Reads.new_at _ [0] 5 (0, 0) #[.int .u8 0] rfl _ (by simp)) (by simp only [List.length_cons, List.length_nil]; omega) (by have := HK2.out.size; simp; omega) (HK2.out.alloc _) ?_)
                        intro v2 w2 hown2 hb2 _ _
                        have HO3 := Lib.hid (show OwnB 5 w2 w.heap.size v2 (b ++ t.take m ++ [0]) by rw [List.append_assoc]; simpa using hown2)
                        have HK3 := Lib.hid (show Keeps w w2 from hb2)
                        clear hown2 hb2
                        go_wp2
                        exact ⟨u_less HTL.out HT.out hq254 a1 hbl hla HGO.out HK3.out hnt h254 HO3.out, by simp [intOf]; omega⟩
                      · go_wp2
                        exact ⟨u_full HTL.out HT.out hq254 a1 hbl hla HGO.out HK2.out hnt h254 HO2.out, by simp [intOf]; omega⟩
                    · have hnt : t.length ≤ m := by have := HTL.out; omega
                      by_cases h254 : m < 254
                      · go_wp2
                        exact ⟨u_end HTL.out HT.out hq254 a1 hbl hla HGO.out HK2.out hnt HO2.out, by simp [intOf]; omega⟩
                      · go_wp2
                        exact ⟨u_end HTL.out HT.out hq254 a1 hbl hla HGO.out HK2.out hnt HO2.out, by simp [intOf]; omega⟩
            · have HE := Lib.hid (hend hlt)
              clear hend hgo
              by_cases h1 : last = 1
              · by_cases h2 : ahead = 255
                · have HU := Lib.hid (show unstuffOf s = ([], 5) by rw [← HE.out]; unfold endOf; rw [if_pos ⟨h1, h2⟩])
                  have q1 : ((last : Int) == 1) = true := by rw [h1]; rfl
                  have q2 : ((ahead : Int) == 255) = true := by rw [h2]; rfl
                  clear h1 h2
                  go_wp2
                  go_ret2
                  rw [HU.out]
                  exact ⟨_, rfl, OwnB.nil _ _ _, HK.out⟩
                · have HU := Lib.hid (show unstuffOf s = (b, 0) by rw [← HE.out]; unfold endOf; rw [if_neg (fun h => h2 h.2)])
                  have q1 : ((last : Int) == 1) = true := by rw [h1]; rfl
                  have q2 : ((ahead : Int) == 255) = false := by rw [beq_eq_false_iff_ne]; omega
                  clear h1 h2
                  go_wp2
                  go_ret2
                  rw [HU.out]
                  exact ⟨_, rfl, HO.out, HK.out⟩
              · have HU := Lib.hid (show unstuffOf s = (b, 0) by rw [← HE.out]; unfold endOf; rw [if_neg (fun h => h1 h.1)])
                have q1 : ((last : Int) == 1) = false := by rw [beq_eq_false_iff_ne]; omega
                clear h1
                go_wp2
                go_ret2
                rw [HU.out]
                exact ⟨_, rfl, HO.out, HK.out⟩
end Go.Proofs.YtbhhhkilljnkfaaDoor
/- The walk of FrameBurst. Condition: the frame reads; the numbers are of their kinds; the tables are as laid. -/
namespace Go.Proofs.YtbhhhkilljnkfaaDoor
open Go.RowKit Go.BigFrame
set_option linter.unusedVariables false
set_option linter.unusedSimpArgs false

structure BurstRel (w : World) (b : List UInt8) (first burst : Nat) (v c i : Value) (wr : World) : Prop where
  ex : ∃ k : Nat, k ≤ 32 ∧ i = .int .i64 (k : Int) ∧ c = .bool (chg first burst (8 * b.length) k) ∧ OwnB 5 wr w.heap.size v (turned b first burst (8 * b.length) k) ∧ Keeps w wr

set_option maxRecDepth 20000 in
set_option maxHeartbeats 8000000 in
theorem frBurst_calls (A B E : Option Addr) (c d k : Nat) (f : Fr) (at_ : Int) (hat : -9223372036854775808 ≤ at_ ∧ at_ ≤ 9223372036854775807) (burst : Nat) (hbu : burst < 4294967296) (w : World) (hf : FrS w (fun b => b < w.heap.size) A B E f) (hw : f.wf) (htb : Tabs w) (ht : Table w) :
    Calls Tryd.prog 6 #[.agg (frCells A c B d E k f), .int .i64 at_, .int .u32 (burst : Int)] w fun e w' => e = .returned (.bool true) ∧ Keeps w w' := by
  obtain ⟨W0, hW0⟩ : ∃ W0, W0 = w.alloc (.cells (frCells A c B d E k f) 33) := ⟨_, rfl⟩
  have hk0 : Keeps w W0 := by rw [hW0]; exact (Keeps.refl w).alloc _
  have hen := encode_calls A B E c d k f W0 ((hf.later hk0.below).mono fun b hb _ => hb) hw (htb.below hk0.below) (ht.later hk0.below)
  have HTB := Lib.hid htb
  have HT := Lib.hid ht
  have HK0 := Lib.hid hk0
  clear hf htb ht hk0
  cases hq0 : encF f with
  | error er =>
    rw [hq0] at hen
    have hnz : er ≠ 0 := encF_nz hq0
    have q1 : (er != 0) = true := by simpa using hnz
    have HEN := Lib.hid hen
    clear hen hq0 hnz hw
    unfold frCells at *
    go_enter Tryd.func6, Tryd.ntmps6
    go_wp2_with fail
    rw [← hW0]
    clear hW0
    refine HEN.out.mono ?_
    rintro e w1 ⟨rfl, hk1⟩
    have hk1 := HK0.out.trans hk1
    have hlv := live_calls w1 (HTB.out.below hk1.below) (HT.out.later hk1.below)
    have HLV := Lib.hid hlv
    have HK1 := Lib.hid hk1
    clear hlv hk1 HEN
    go_wp2_with fail
    refine HLV.out.mono ?_
    rintro e w2 ⟨rfl, hk2⟩
    have HK2 := Lib.hid (HK1.out.trans hk2)
    clear hk2 HLV HK1
    go_wp2
    go_ret
    exact ⟨rfl, HK2.out⟩
  | ok l =>
    rw [hq0] at hen
    obtain ⟨h0, hs22, hls⟩ := encF_ok hq0
    obtain ⟨y, hty, _⟩ := takeF_of h0 hw
    have hdc0 := decF_checked (frBody f) (frBody_pos f) hs22
    rw [hty] at hdc0
    have hN4 : (checked (frBody f)).length = (frBody f).length + 4 := by unfold checked; rw [List.length_append, le4_length]
    have hNs := (stuff_length (checked (frBody f))).1
    have hN5 : 5 ≤ (checked (frBody f)).length := by have := frBody_pos f; omega
    have hbd := burst_dec (frBody f)
    have hun := unstuff_stuff (checked (frBody f))
    obtain ⟨bd, hbdd⟩ : ∃ bd, bd = checked (frBody f) := ⟨_, rfl⟩
    rw [← hbdd] at hls hs22 hdc0 hNs hN5 hbd hun
    obtain ⟨s, hs⟩ : ∃ s, s = stuffOf bd := ⟨_, rfl⟩
    rw [← hs] at hls hs22 hNs hun
    have hll : l.length = s.length + 2 := by rw [hls]; simp
    obtain ⟨L, hL⟩ : ∃ L, L = l.length := ⟨_, rfl⟩
    obtain ⟨m, hm⟩ : ∃ m, m = s.length + 1 := ⟨_, rfl⟩
    obtain ⟨N, hN⟩ : ∃ N, N = bd.length := ⟨_, rfl⟩
    have hNm : N < m := by omega
    have hm22 : m ≤ 2201 := by omega
    have hmL : m < L := by omega
    have hmL' : m ≤ L := by omega
    have hL3 : 3 ≤ L := by omega
    have hL22 : L ≤ 2202 := by omega
    have hm1 : 1 ≤ m := by omega
    have hNN : 5 ≤ N := by omega
    have hw1 : IntKind.i64.wrap ((L : Int) - 1) = (m : Int) := by rw [IntWalk.i64_in _ (by omega)]; omega
    have HEN := Lib.hid hen
    have HLS := Lib.hid hls
    have HUN := Lib.hid hun
    have HBD := Lib.hid hbd
    have HDC0 := Lib.hid hdc0
    have HL := Lib.hid hL
    have HM := Lib.hid hm
    have HN := Lib.hid hN
    have HS := Lib.hid hs
    clear hen hls hun hbd hdc0 hL hm hN hs hll hNs hN5 hN4 hs22 hq0 h0 hty hbdd hw
    unfold frCells at *
    go_enter Tryd.func6, Tryd.ntmps6
    go_wp2_with fail
    rw [← hW0]
    clear hW0
    refine HEN.out.mono ?_
    rintro e w1 ⟨v1, rfl, ho1, hk1⟩
    obtain ⟨A1, c1, rfl, hlc1, hr1, hcm1, _⟩ := ho1.form
    have hk1 := HK0.out.trans hk1
    rw [← HL.out] at hlc1 ⊢
    have hrs : ∃ ad, A1 = some ad ∧ Reads w1 (some ⟨ad.block, ad.off + 1, none⟩) s := by
      obtain ⟨ad, e, _⟩ := hr1.out 0 (by rw [HLS.out]; simp)
      subst e
      refine ⟨ad, rfl, ?_⟩
      have h1 := (hr1.drop 1 (ad' := ⟨ad.block, ad.off + 1, none⟩) (fun i => by rw [addr_add_mk, addr_add_pos ad (1 + i) (by omega)]; congr 1; omega)).take s.length
      have h2 : (l.drop 1).take s.length = s := by rw [HLS.out]; simp
      rwa [h2] at h1
    obtain ⟨ad, rfl, hrs⟩ := hrs
    have hun := refUnstuff_calls (some ⟨ad.block, ad.off + 1, none⟩) (c1 - 1) s w1 (by have := HM.out; omega) hrs
    rw [HUN.out, show s.length = m - 1 by have := HM.out; omega] at hun
    have HU := Lib.hid hun
    have HK1 := Lib.hid hk1
    have hc1n : ¬ c1 = 1 := by omega
    have hmc : m ≤ c1 := by omega
    clear hun hk1 hr1 ho1 hrs HEN HK0
    go_wp2_with fail
    refine HU.out.mono ?_
    rintro e w2 ⟨v2, rfl, ho2, hk2⟩
    have ho2 : OwnB 5 w2 w1.heap.size v2 bd := ho2
    obtain ⟨g, cx, rfl, hg, hcx, hcx2⟩ := ho2.block (by rw [← HN.out]; omega)
    have hg : w.heap.size ≤ g := Nat.le_trans HK1.out.size hg
    have ho2N : OwnB 5 w2 w.heap.size (.slice (some ⟨g, 0, none⟩) N cx) bd := by rw [HN.out]; exact ho2.weaken HK1.out.size
    have HO2 := Lib.hid ho2N
    clear ho2N
    have HK2 := Lib.hid (HK1.out.trans hk2)
    rw [← HN.out] at hcx
    rw [show (bd, (0 : Int)).2 = 0 from rfl]
    have hlen2 : (bd, (0 : Int)).1.length = N := HN.out.symm
    try rw [hlen2]
    try rw [← HN.out]
    clear ho2 hk2 HU HK1 hlen2
    have hz : (8 * (N : Int) == 0) = false := by rw [beq_eq_false_iff_ne]; omega
    have hpos : 1 ≤ 8 * (N : Int) := by omega
    obtain ⟨T, hT⟩ : ∃ T, at_.tmod (8 * (N : Int)) = T := ⟨_, rfl⟩
    have t1 : T < 8 * (N : Int) := by rw [← hT]; exact Int.tmod_lt_of_pos _ (by omega)
    have t2 : -(8 * (N : Int)) < T := by rw [← hT]; exact Int.lt_tmod_of_pos _ (by omega)
    by_cases tn : T < 0
    · obtain ⟨Q, hQ⟩ : ∃ Q : Nat, T + 8 * (N : Int) = (Q : Int) := ⟨(T + 8 * (N : Int)).toNat, by omega⟩
      have f1 : Q < 8 * N := by omega
      go_wp2
      go_loopw [13, 14] (fun ch i wr => BurstRel w bd Q burst (.slice (some ⟨g, 0, none⟩) N cx) ch i wr) (fun _ i _ => 32 - (intOf i).toNat)
      case atStart => exact ⟨0, by omega, rfl, rfl, HO2.out, HK2.out⟩
      case round =>
        obtain ⟨k, hk, rfl, rfl, hown, hkw⟩ := hrel.ex
        clear HO2 HK2 hrel
        have HO := Lib.hid hown
        have HK := Lib.hid hkw
        clear hown hkw
        by_cases hlt : k < 32
        · by_cases q1 : Q + k < 8 * N
          · by_cases q2 : burst / 2 ^ k % 2 = 1
            · have hq : (((burst : Int) / 2 ^ k).tmod 2 == 1) = true := hit_yes burst k q2
              have htl : (turned bd Q burst (8 * bd.length) k).length = N := (turned_length bd Q burst (8 * bd.length) k).trans HN.out.symm
              have hhit : hits Q burst (8 * bd.length) k = true := by rw [← HN.out]; simp [hits, q1, q2]
              have hch : chg Q burst (8 * bd.length) (k + 1) = true := by rw [chg, hhit]; simp
              have hnext : turned bd Q burst (8 * bd.length) (k + 1) = flip (turned bd Q burst (8 * bd.length) k) (Q + k) := by
                show (if hits Q burst (8 * bd.length) k = true then _ else _) = _
                rw [if_pos hhit]
              have hix : (Q + k) / 8 < (turned bd Q burst (8 * bd.length) k).length := by rw [htl]; omega
              obtain ⟨hc, hf⟩ := HO.out.cell ((Q + k) / 8) hix
              have hst := OwnB.store (l := turned bd Q burst (8 * bd.length) k) (g := g) (c := cx) (by rw [htl]; exact HO.out) ((Q + k) / 8) ((turned bd Q burst (8 * bd.length) k)[(Q + k) / 8] ^^^ UInt8.ofNat (2 ^ ((Q + k) % 8)))
              have hfl : (turned bd Q burst (8 * bd.length) k).set ((Q + k) / 8) ((turned bd Q burst (8 * bd.length) k)[(Q + k) / 8] ^^^ UInt8.ofNat (2 ^ ((Q + k) % 8))) = flip (turned bd Q burst (8 * bd.length) k) (Q + k) := by
                unfold flip
                simp [List.getD_eq_getElem?_getD, hix]
              rw [hfl, ← hnext, htl] at hst
              have HST := Lib.hid hst
              have HCH := Lib.hid hch
              have hi8 : (Q + k) / 8 < N := by rw [htl] at hix; exact hix
              clear hst hfl hnext htl q2 hhit hch
              generalize (turned bd Q burst (8 * bd.length) k)[(Q + k) / 8] = x at *
              go_wp2
              rw [flip_u8 x ((Q + k) % 8) (mod8_lt _)]
              exact ⟨⟨k + 1, by omega, by go_num, by rw [HCH.out], HST.out.1, HK.out.setCell hg _⟩, by simp [intOf]; omega⟩
            · have hq : (((burst : Int) / 2 ^ k).tmod 2 == 1) = false := hit_no burst k q2
              have hhit : hits Q burst (8 * bd.length) k = false := by rw [← HN.out]; simp [hits, q2]
              have hch : chg Q burst (8 * bd.length) (k + 1) = chg Q burst (8 * bd.length) k := by rw [chg, hhit]; simp
              have hnext : turned bd Q burst (8 * bd.length) (k + 1) = turned bd Q burst (8 * bd.length) k := by
                show (if hits Q burst (8 * bd.length) k = true then _ else _) = _
                rw [if_neg (by rw [hhit]; simp)]
              have HNX := Lib.hid hnext
              have HCH := Lib.hid hch
              clear hnext q2 hch hhit
              go_wp2
              exact ⟨⟨k + 1, by omega, by go_num, by rw [HCH.out], by rw [HNX.out]; exact HO.out, HK.out⟩, by simp [intOf]; omega⟩
          · have hhit : hits Q burst (8 * bd.length) k = false := by rw [← HN.out]; simp [hits, q1]
            have hch : chg Q burst (8 * bd.length) (k + 1) = chg Q burst (8 * bd.length) k := by rw [chg, hhit]; simp
            have hnext : turned bd Q burst (8 * bd.length) (k + 1) = turned bd Q burst (8 * bd.length) k := by
              show (if hits Q burst (8 * bd.length) k = true then _ else _) = _
              rw [if_neg (by rw [hhit]; simp)]
            have HNX := Lib.hid hnext
            have HCH := Lib.hid hch
            clear hnext hch hhit
            go_wp2
            exact ⟨⟨k + 1, by omega, by go_num, by rw [HCH.out], by rw [HNX.out]; exact HO.out, HK.out⟩, by simp [intOf]; omega⟩
        · obtain rfl : k = 32 := by omega
          have htl : (turned bd Q burst (8 * bd.length) 32).length = N := (turned_length bd Q burst (8 * bd.length) 32).trans HN.out.symm
          have hO := HO.out
          clear HO
          have hbN : bd.length = N := HN.out.symm
          cases hch : chg Q burst (8 * bd.length) 32 with
          | false =>
            rw [chg_no bd Q burst _ 32 hch] at hO
            have hor := hO
            rw [← hbN] at hor
            obtain ⟨X, cX, e1, _, hrx, _⟩ := hor.form
            injection e1 with e1 e2 e3
            subst e1 e3
            have hst := refStuff_calls (some ⟨g, 0, none⟩) cx bd wr (by omega) hrx
            rw [hbN, ← HS.out] at hst
            have hdc := HDC0.out
            rw [← HS.out] at hdc
            have HST := Lib.hid hst
            have HDC := Lib.hid hdc
            have HSL := Lib.hid (show s.length ≤ 2200 by have := HM.out; omega)
            clear hst hdc hO hor hrx htl hbN hch e2
            go_wp2_with fail
            refine HST.out.mono ?_
            rintro e w3 ⟨v3, rfl, ho3, hk3⟩
            obtain ⟨A3, c3, rfl, hlc3, hr3, _⟩ := ho3.form
            have hk3 := HK.out.trans hk3
            have hd := decode_calls A3 c3 s w3 hr3 (by have := HSL.out; omega) hlc3 (HTB.out.below hk3.below) (HT.out.later hk3.below)
            rw [HDC.out] at hd
            have HD := Lib.hid hd
            have HK3 := Lib.hid hk3
            clear hd hk3 ho3 hr3 HST
            generalize s.length = RL at hlc3 HD ⊢
            go_wp2_with fail
            refine HD.out.mono ?_
            rintro e w4 ⟨A4, c4, B4, d4, E4, k4, rfl, hfo, hk4⟩
            obtain ⟨Wb, hWb⟩ : ∃ Wb, Wb = w4.alloc (.cells (frCells A4 c4 B4 d4 E4 k4 y) 33) := ⟨_, rfl⟩
            have hkb : Keeps w4 Wb := by rw [hWb]; exact (Keeps.refl w4).alloc _
            have hkw := HK3.out.trans (hk4.trans hkb)
            have hlv := live_calls Wb (HTB.out.below hkw.below) (HT.out.later hkw.below)
            have HLV := Lib.hid hlv
            have HKW := Lib.hid hkw
            clear hkb hkw hlv hk4 hfo HK3 HD
            unfold frCells at *
            go_wp2_with fail
            rw [← hWb]
            clear hWb
            refine HLV.out.mono ?_
            rintro e w5 ⟨rfl, hk5⟩
            have HK5 := Lib.hid (HKW.out.trans hk5)
            clear hk5 HLV HKW
            go_wp2
            go_ret
            exact ⟨rfl, HK5.out⟩
          | true =>
            have hdc := HBD.out Q burst (by omega) hch
            rw [if_neg (show ¬ bd.length < 5 by omega)] at hdc
            obtain ⟨x, hx⟩ : ∃ x, x = turned bd Q burst (8 * bd.length) 32 := ⟨_, rfl⟩
            rw [← hx] at hdc hO htl
            have hor := hO
            rw [← htl] at hor
            obtain ⟨X, cX, e1, _, hrx, _⟩ := hor.form
            injection e1 with e1 e2 e3
            subst e1 e3
            have hst := refStuff_calls (some ⟨g, 0, none⟩) cx x wr (by omega) hrx
            have hsx := (stuff_length x).2
            rw [htl] at hst hsx
            obtain ⟨z, hz2⟩ : ∃ z, z = stuffOf x := ⟨_, rfl⟩
            rw [← hz2] at hst hdc hsx
            have HST := Lib.hid hst
            have HDC := Lib.hid hdc
            have HSX := Lib.hid hsx
            clear hst hdc hO hor hrx htl hbN hch e2 hsx hz2
            go_wp2_with fail
            refine HST.out.mono ?_
            rintro e w3 ⟨v3, rfl, ho3, hk3⟩
            obtain ⟨A3, c3, rfl, hlc3, hr3, _⟩ := ho3.form
            have hk3 := HK.out.trans hk3
            have hd := decode_calls A3 c3 z w3 hr3 (by have := HSX.out; omega) hlc3 (HTB.out.below hk3.below) (HT.out.later hk3.below)
            rw [HDC.out] at hd
            have HK3 := Lib.hid hk3
            clear hk3 ho3 hr3 HST HDC
            generalize z.length = RL at hlc3 hd ⊢
            by_cases h22 : 2200 < RL
            · rw [if_pos h22] at hd
              have HD := Lib.hid hd
              have h22i : (2200 : Int) < (RL : Int) := by omega
              clear hd
              go_wp2_with fail
              refine HD.out.mono ?_
              rintro e w4 ⟨rfl, hk4⟩
              rw [show frCells none 0 none 0 none 0 frZero = #[.int .i64 0, .int .i64 0, .slice none 0 0, .int .i64 0, .int .i64 0, .int .i64 0, .slice none 0 0, .int .i64 0, .int .i64 0, .int .i64 0, .slice none 0 0] from rfl]
              obtain ⟨Wb, hWb⟩ : ∃ Wb, Wb = w4.alloc (.cells #[.int .i64 0, .int .i64 0, .slice none 0 0, .int .i64 0, .int .i64 0, .int .i64 0, .slice none 0 0, .int .i64 0, .int .i64 0, .int .i64 0, .slice none 0 0] 33) := ⟨_, rfl⟩
              have hkb : Keeps w4 Wb := by rw [hWb]; exact (Keeps.refl w4).alloc _
              have hkw := HK3.out.trans (hk4.trans hkb)
              have hlv := live_calls Wb (HTB.out.below hkw.below) (HT.out.later hkw.below)
              have HLV := Lib.hid hlv
              have HKW := Lib.hid hkw
              clear hkb hkw hlv hk4 HK3 HD
              go_wp2_with fail
              rw [← hWb]
              clear hWb
              refine HLV.out.mono ?_
              rintro e w5 ⟨rfl, hk5⟩
              have HK5 := Lib.hid (HKW.out.trans hk5)
              clear hk5 HLV HKW
              go_wp2
              go_ret
              exact ⟨rfl, HK5.out⟩
            · rw [if_neg h22] at hd
              have HD := Lib.hid hd
              clear hd
              go_wp2_with fail
              refine HD.out.mono ?_
              rintro e w4 ⟨rfl, hk4⟩
              rw [show frCells none 0 none 0 none 0 frZero = #[.int .i64 0, .int .i64 0, .slice none 0 0, .int .i64 0, .int .i64 0, .int .i64 0, .slice none 0 0, .int .i64 0, .int .i64 0, .int .i64 0, .slice none 0 0] from rfl]
              obtain ⟨Wb, hWb⟩ : ∃ Wb, Wb = w4.alloc (.cells #[.int .i64 0, .int .i64 0, .slice none 0 0, .int .i64 0, .int .i64 0, .int .i64 0, .slice none 0 0, .int .i64 0, .int .i64 0, .int .i64 0, .slice none 0 0] 33) := ⟨_, rfl⟩
              have hkb : Keeps w4 Wb := by rw [hWb]; exact (Keeps.refl w4).alloc _
              have hkw := HK3.out.trans (hk4.trans hkb)
              have hlv := live_calls Wb (HTB.out.below hkw.below) (HT.out.later hkw.below)
              have HLV := Lib.hid hlv
              have HKW := Lib.hid hkw
              clear hkb hkw hlv hk4 HK3 HD
              go_wp2_with fail
              rw [← hWb]
              clear hWb
              refine HLV.out.mono ?_
              rintro e w5 ⟨rfl, hk5⟩
              have HK5 := Lib.hid (HKW.out.trans hk5)
              clear hk5 HLV HKW
              go_wp2
              go_ret
              exact ⟨rfl, HK5.out⟩
    · obtain ⟨Q, hQ⟩ : ∃ Q : Nat, T = (Q : Int) := ⟨(T).toNat, by omega⟩
      have f1 : Q < 8 * N := by omega
      go_wp2
      go_loopw [13, 14] (fun ch i wr => BurstRel w bd Q burst (.slice (some ⟨g, 0, none⟩) N cx) ch i wr) (fun _ i _ => 32 - (intOf i).toNat)
      case atStart => exact ⟨0, by omega, rfl, rfl, HO2.out, HK2.out⟩
      case round =>
        obtain ⟨k, hk, rfl, rfl, hown, hkw⟩ := hrel.ex
        clear HO2 HK2 hrel
        have HO := Lib.hid hown
        have HK := Lib.hid hkw
        clear hown hkw
        by_cases hlt : k < 32
        · by_cases q1 : Q + k < 8 * N
          · by_cases q2 : burst / 2 ^ k % 2 = 1
            · have hq : (((burst : Int) / 2 ^ k).tmod 2 == 1) = true := hit_yes burst k q2
              have htl : (turned bd Q burst (8 * bd.length) k).length = N := (turned_length bd Q burst (8 * bd.length) k).trans HN.out.symm
              have hhit : hits Q burst (8 * bd.length) k = true := by rw [← HN.out]; simp [hits, q1, q2]
              have hch : chg Q burst (8 * bd.length) (k + 1) = true := by rw [chg, hhit]; simp
              have hnext : turned bd Q burst (8 * bd.length) (k + 1) = flip (turned bd Q burst (8 * bd.length) k) (Q + k) := by
                show (if hits Q burst (8 * bd.length) k = true then _ else _) = _
                rw [if_pos hhit]
              have hix : (Q + k) / 8 < (turned bd Q burst (8 * bd.length) k).length := by rw [htl]; omega
              obtain ⟨hc, hf⟩ := HO.out.cell ((Q + k) / 8) hix
              have hst := OwnB.store (l := turned bd Q burst (8 * bd.length) k) (g := g) (c := cx) (by rw [htl]; exact HO.out) ((Q + k) / 8) ((turned bd Q burst (8 * bd.length) k)[(Q + k) / 8] ^^^ UInt8.ofNat (2 ^ ((Q + k) % 8)))
              have hfl : (turned bd Q burst (8 * bd.length) k).set ((Q + k) / 8) ((turned bd Q burst (8 * bd.length) k)[(Q + k) / 8] ^^^ UInt8.ofNat (2 ^ ((Q + k) % 8))) = flip (turned bd Q burst (8 * bd.length) k) (Q + k) := by
                unfold flip
                simp [List.getD_eq_getElem?_getD, hix]
              rw [hfl, ← hnext, htl] at hst
              have HST := Lib.hid hst
              have HCH := Lib.hid hch
              have hi8 : (Q + k) / 8 < N := by rw [htl] at hix; exact hix
              clear hst hfl hnext htl q2 hhit hch
              generalize (turned bd Q burst (8 * bd.length) k)[(Q + k) / 8] = x at *
              go_wp2
              rw [flip_u8 x ((Q + k) % 8) (mod8_lt _)]
              exact ⟨⟨k + 1, by omega, by go_num, by rw [HCH.out], HST.out.1, HK.out.setCell hg _⟩, by simp [intOf]; omega⟩
            · have hq : (((burst : Int) / 2 ^ k).tmod 2 == 1) = false := hit_no burst k q2
              have hhit : hits Q burst (8 * bd.length) k = false := by rw [← HN.out]; simp [hits, q2]
              have hch : chg Q burst (8 * bd.length) (k + 1) = chg Q burst (8 * bd.length) k := by rw [chg, hhit]; simp
              have hnext : turned bd Q burst (8 * bd.length) (k + 1) = turned bd Q burst (8 * bd.length) k := by
                show (if hits Q burst (8 * bd.length) k = true then _ else _) = _
                rw [if_neg (by rw [hhit]; simp)]
              have HNX := Lib.hid hnext
              have HCH := Lib.hid hch
              clear hnext q2 hch hhit
              go_wp2
              exact ⟨⟨k + 1, by omega, by go_num, by rw [HCH.out], by rw [HNX.out]; exact HO.out, HK.out⟩, by simp [intOf]; omega⟩
          · have hhit : hits Q burst (8 * bd.length) k = false := by rw [← HN.out]; simp [hits, q1]
            have hch : chg Q burst (8 * bd.length) (k + 1) = chg Q burst (8 * bd.length) k := by rw [chg, hhit]; simp
            have hnext : turned bd Q burst (8 * bd.length) (k + 1) = turned bd Q burst (8 * bd.length) k := by
              show (if hits Q burst (8 * bd.length) k = true then _ else _) = _
              rw [if_neg (by rw [hhit]; simp)]
            have HNX := Lib.hid hnext
            have HCH := Lib.hid hch
            clear hnext hch hhit
            go_wp2
            exact ⟨⟨k + 1, by omega, by go_num, by rw [HCH.out], by rw [HNX.out]; exact HO.out, HK.out⟩, by simp [intOf]; omega⟩
        · obtain rfl : k = 32 := by omega
          have htl : (turned bd Q burst (8 * bd.length) 32).length = N := (turned_length bd Q burst (8 * bd.length) 32).trans HN.out.symm
          have hO := HO.out
          clear HO
          have hbN : bd.length = N := HN.out.symm
          cases hch : chg Q burst (8 * bd.length) 32 with
          | false =>
            rw [chg_no bd Q burst _ 32 hch] at hO
            have hor := hO
            rw [← hbN] at hor
            obtain ⟨X, cX, e1, _, hrx, _⟩ := hor.form
            injection e1 with e1 e2 e3
            subst e1 e3
            have hst := refStuff_calls (some ⟨g, 0, none⟩) cx bd wr (by omega) hrx
            rw [hbN, ← HS.out] at hst
            have hdc := HDC0.out
            rw [← HS.out] at hdc
            have HST := Lib.hid hst
            have HDC := Lib.hid hdc
            have HSL := Lib.hid (show s.length ≤ 2200 by have := HM.out; omega)
            clear hst hdc hO hor hrx htl hbN hch e2
            go_wp2_with fail
            refine HST.out.mono ?_
            rintro e w3 ⟨v3, rfl, ho3, hk3⟩
            obtain ⟨A3, c3, rfl, hlc3, hr3, _⟩ := ho3.form
            have hk3 := HK.out.trans hk3
            have hd := decode_calls A3 c3 s w3 hr3 (by have := HSL.out; omega) hlc3 (HTB.out.below hk3.below) (HT.out.later hk3.below)
            rw [HDC.out] at hd
            have HD := Lib.hid hd
            have HK3 := Lib.hid hk3
            clear hd hk3 ho3 hr3 HST
            generalize s.length = RL at hlc3 HD ⊢
            go_wp2_with fail
            refine HD.out.mono ?_
            rintro e w4 ⟨A4, c4, B4, d4, E4, k4, rfl, hfo, hk4⟩
            obtain ⟨Wb, hWb⟩ : ∃ Wb, Wb = w4.alloc (.cells (frCells A4 c4 B4 d4 E4 k4 y) 33) := ⟨_, rfl⟩
            have hkb : Keeps w4 Wb := by rw [hWb]; exact (Keeps.refl w4).alloc _
            have hkw := HK3.out.trans (hk4.trans hkb)
            have hlv := live_calls Wb (HTB.out.below hkw.below) (HT.out.later hkw.below)
            have HLV := Lib.hid hlv
            have HKW := Lib.hid hkw
            clear hkb hkw hlv hk4 hfo HK3 HD
            unfold frCells at *
            go_wp2_with fail
            rw [← hWb]
            clear hWb
            refine HLV.out.mono ?_
            rintro e w5 ⟨rfl, hk5⟩
            have HK5 := Lib.hid (HKW.out.trans hk5)
            clear hk5 HLV HKW
            go_wp2
            go_ret
            exact ⟨rfl, HK5.out⟩
          | true =>
            have hdc := HBD.out Q burst (by omega) hch
            rw [if_neg (show ¬ bd.length < 5 by omega)] at hdc
            obtain ⟨x, hx⟩ : ∃ x, x = turned bd Q burst (8 * bd.length) 32 := ⟨_, rfl⟩
            rw [← hx] at hdc hO htl
            have hor := hO
            rw [← htl] at hor
            obtain ⟨X, cX, e1, _, hrx, _⟩ := hor.form
            injection e1 with e1 e2 e3
            subst e1 e3
            have hst := refStuff_calls (some ⟨g, 0, none⟩) cx x wr (by omega) hrx
            have hsx := (stuff_length x).2
            rw [htl] at hst hsx
            obtain ⟨z, hz2⟩ : ∃ z, z = stuffOf x := ⟨_, rfl⟩
            rw [← hz2] at hst hdc hsx
            have HST := Lib.hid hst
            have HDC := Lib.hid hdc
            have HSX := Lib.hid hsx
            clear hst hdc hO hor hrx htl hbN hch e2 hsx hz2
            go_wp2_with fail
            refine HST.out.mono ?_
            rintro e w3 ⟨v3, rfl, ho3, hk3⟩
            obtain ⟨A3, c3, rfl, hlc3, hr3, _⟩ := ho3.form
            have hk3 := HK.out.trans hk3
            have hd := decode_calls A3 c3 z w3 hr3 (by have := HSX.out; omega) hlc3 (HTB.out.below hk3.below) (HT.out.later hk3.below)
            rw [HDC.out] at hd
            have HK3 := Lib.hid hk3
            clear hk3 ho3 hr3 HST HDC
            generalize z.length = RL at hlc3 hd ⊢
            by_cases h22 : 2200 < RL
            · rw [if_pos h22] at hd
              have HD := Lib.hid hd
              have h22i : (2200 : Int) < (RL : Int) := by omega
              clear hd
              go_wp2_with fail
              refine HD.out.mono ?_
              rintro e w4 ⟨rfl, hk4⟩
              rw [show frCells none 0 none 0 none 0 frZero = #[.int .i64 0, .int .i64 0, .slice none 0 0, .int .i64 0, .int .i64 0, .int .i64 0, .slice none 0 0, .int .i64 0, .int .i64 0, .int .i64 0, .slice none 0 0] from rfl]
              obtain ⟨Wb, hWb⟩ : ∃ Wb, Wb = w4.alloc (.cells #[.int .i64 0, .int .i64 0, .slice none 0 0, .int .i64 0, .int .i64 0, .int .i64 0, .slice none 0 0, .int .i64 0, .int .i64 0, .int .i64 0, .slice none 0 0] 33) := ⟨_, rfl⟩
              have hkb : Keeps w4 Wb := by rw [hWb]; exact (Keeps.refl w4).alloc _
              have hkw := HK3.out.trans (hk4.trans hkb)
              have hlv := live_calls Wb (HTB.out.below hkw.below) (HT.out.later hkw.below)
              have HLV := Lib.hid hlv
              have HKW := Lib.hid hkw
              clear hkb hkw hlv hk4 HK3 HD
              go_wp2_with fail
              rw [← hWb]
              clear hWb
              refine HLV.out.mono ?_
              rintro e w5 ⟨rfl, hk5⟩
              have HK5 := Lib.hid (HKW.out.trans hk5)
              clear hk5 HLV HKW
              go_wp2
              go_ret
              exact ⟨rfl, HK5.out⟩
            · rw [if_neg h22] at hd
              have HD := Lib.hid hd
              clear hd
              go_wp2_with fail
              refine HD.out.mono ?_
              rintro e w4 ⟨rfl, hk4⟩
              rw [show frCells none 0 none 0 none 0 frZero = #[.int .i64 0, .int .i64 0, .slice none 0 0, .int .i64 0, .int .i64 0, .int .i64 0, .slice none 0 0, .int .i64 0, .int .i64 0, .int .i64 0, .slice none 0 0] from rfl]
              obtain ⟨Wb, hWb⟩ : ∃ Wb, Wb = w4.alloc (.cells #[.int .i64 0, .int .i64 0, .slice none 0 0, .int .i64 0, .int .i64 0, .int .i64 0, .slice none 0 0, .int .i64 0, .int .i64 0, .int .i64 0, .slice none 0 0] 33) := ⟨_, rfl⟩
              have hkb : Keeps w4 Wb := by rw [hWb]; exact (Keeps.refl w4).alloc _
              have hkw := HK3.out.trans (hk4.trans hkb)
              have hlv := live_calls Wb (HTB.out.below hkw.below) (HT.out.later hkw.below)
              have HLV := Lib.hid hlv
              have HKW := Lib.hid hkw
              clear hkb hkw hlv hk4 HK3 HD
              go_wp2_with fail
              rw [← hWb]
              clear hWb
              refine HLV.out.mono ?_
              rintro e w5 ⟨rfl, hk5⟩
              have HK5 := Lib.hid (HKW.out.trans hk5)
              clear hk5 HLV HKW
              go_wp2
              go_ret
              exact ⟨rfl, HK5.out⟩
end Go.Proofs.YtbhhhkilljnkfaaDoor
