/-
  The walk of the law CrcBursts: it returns true, and what was there before is as it was. Condition: the bytes read as a list; the numbers are of their kinds; the table of halves holds its numbers.
-/
import Derived.Test.YtnfefjlplipeiaaDoorCrcLawC
namespace Go.Proofs.YtnfefjlplipeiaaDoor
open Go.RowKit Go.BigFrame

/-- one bit turned -/
def flip (x : List UInt8) (n : Nat) : List UInt8 := x.set (n / 8) (x.getD (n / 8) 0 ^^^ UInt8.ofNat (2 ^ (n % 8)))
theorem flip_length (x : List UInt8) (n : Nat) : (flip x n).length = x.length := by simp [flip]
theorem pow_lt_256 (m : Nat) (h : m < 8) : 2 ^ m < 256 := by
  have := Nat.pow_lt_pow_right (a := 2) (by omega) h
  omega
theorem mod8_lt (n : Nat) : n % 8 < 8 := Nat.mod_lt _ (by omega)
theorem num_flip (x : List UInt8) (n : Nat) (h : n / 8 < x.length) : Crc.num (nats (flip x n)) = Crc.num (nats x) ^^^ 2 ^ n := by
  induction x generalizing n with
  | nil => simp at h
  | cons c x ih =>
    by_cases h8 : n < 8
    · have e : n / 8 = 0 := by omega
      have e2 : n % 8 = n := by omega
      have hc : c.toNat < 2 ^ 8 := c.toNat_lt
      have hp : 2 ^ n < 2 ^ 8 := Nat.pow_lt_pow_right (by omega) h8
      have hx : c.toNat ^^^ 2 ^ n < 2 ^ 8 := Nat.xor_lt_two_pow hc hp
      unfold flip
      rw [e, e2]
      simp only [List.set_cons_zero, List.getD_cons_zero, nats, List.map_cons, Crc.num, UInt8.toNat_xor, UInt8.toNat_ofNat']
      rw [Nat.mod_eq_of_lt hp, show (c.toNat ^^^ 2 ^ n) + 256 * Crc.num (List.map (fun x => x.toNat) x) = 2 ^ 8 * Crc.num (List.map (fun x => x.toNat) x) + (c.toNat ^^^ 2 ^ n) by omega, ← Crc.xor_or_shift 8 _ _ hx,
        show c.toNat + 256 * Crc.num (List.map (fun x => x.toNat) x) = 2 ^ 8 * Crc.num (List.map (fun x => x.toNat) x) + c.toNat by omega, ← Crc.xor_or_shift 8 _ _ hc, Nat.xor_assoc]
    · have e : n / 8 = (n - 8) / 8 + 1 := by omega
      have e2 : n % 8 = (n - 8) % 8 := by omega
      have ih := ih (n - 8) (by simp at h; omega)
      have hc : c.toNat < 2 ^ 8 := c.toNat_lt
      have hf : flip (c :: x) n = c :: flip x (n - 8) := by
        unfold flip
        rw [e, e2]
        simp
      rw [hf]
      have hn : ∀ l : List UInt8, Crc.num (nats (c :: l)) = 2 ^ 8 * Crc.num (nats l) ^^^ c.toNat := by
        intro l
        rw [Crc.xor_or_shift 8 _ _ hc]
        simp only [nats, List.map_cons, Crc.num]
        omega
      have hp : 2 ^ n = 2 ^ 8 * 2 ^ (n - 8) := by rw [← Nat.pow_add]; congr 1; omega
      rw [hn, hn, ih, hp]
      have hs : ∀ a b : Nat, 2 ^ 8 * (a ^^^ b) = 2 ^ 8 * a ^^^ 2 ^ 8 * b := by
        intro a b
        apply Nat.eq_of_testBit_eq; intro i
        simp only [Nat.testBit_xor, Nat.testBit_two_pow_mul]
        cases decide (8 ≤ i) <;> simp
      rw [hs, Nat.xor_assoc, Nat.xor_comm (2 ^ 8 * 2 ^ (n - 8)), ← Nat.xor_assoc]

theorem shl_xor (k a b : Nat) : 2 ^ k * (a ^^^ b) = 2 ^ k * a ^^^ 2 ^ k * b := by
  apply Nat.eq_of_testBit_eq; intro i
  simp only [Nat.testBit_xor, Nat.testBit_two_pow_mul]
  cases decide (k ≤ i) <;> simp

/-- the bits that the law turns, after so many rounds -/
def hits (first burst bits K : Nat) : Bool := decide (first + K < bits) && decide (burst / 2 ^ K % 2 = 1)
def turned (b : List UInt8) (first burst bits : Nat) : Nat → List UInt8
  | 0 => b
  | K + 1 => if hits first burst bits K = true then flip (turned b first burst bits K) (first + K) else turned b first burst bits K
def mask (first burst bits : Nat) : Nat → Nat
  | 0 => 0
  | K + 1 => if hits first burst bits K = true then mask first burst bits K ^^^ 2 ^ K else mask first burst bits K
theorem turned_length (b : List UInt8) (first burst bits K : Nat) : (turned b first burst bits K).length = b.length := by
  induction K with
  | zero => rfl
  | succ K ih => unfold turned; split <;> simp [flip_length, ih]
theorem mask_lt (first burst bits K : Nat) : mask first burst bits K < 2 ^ K := by
  induction K with
  | zero => simp [mask]
  | succ K ih =>
    have h1 : mask first burst bits K < 2 ^ (K + 1) := by rw [Nat.pow_succ]; omega
    unfold mask
    split
    · exact Nat.xor_lt_two_pow h1 (by rw [Nat.pow_succ]; have := Nat.two_pow_pos K; omega)
    · exact h1
theorem num_turned (b : List UInt8) (first burst K : Nat) : Crc.num (nats (turned b first burst (8 * b.length) K)) = Crc.num (nats b) ^^^ 2 ^ first * mask first burst (8 * b.length) K := by
  induction K with
  | zero => simp [turned, mask]
  | succ K ih =>
    unfold turned mask
    split
    · rename_i h
      have hlt : first + K < 8 * b.length := by simp [hits] at h; exact h.1
      rw [num_flip _ _ (by rw [turned_length]; omega), ih, shl_xor, Nat.xor_assoc, ← Nat.pow_add]
    · exact ih
theorem burst_tells (b : List UInt8) (first burst : Nat) (hf : first ≤ 8 * b.length) :
    decide (Crc.sum (nats (turned b first burst (8 * b.length) 32)) = Crc.sum (nats b)) = decide (turned b first burst (8 * b.length) 32 = b) := by
  by_cases h : turned b first burst (8 * b.length) 32 = b
  · rw [h]; simp
  · rw [decide_eq_false h]
    apply decide_eq_false
    intro he
    apply h
    have hl := turned_length b first burst (8 * b.length) 32
    have := Crc.sum_burst (nats (turned b first burst (8 * b.length) 32)) (nats b) (by rw [nats_length, nats_length, hl]) (nats_lt _) (nats_lt _) first (mask first burst (8 * b.length) 32)
      (mask_lt _ _ _ 32) (by rw [nats_length, hl]; exact hf) (by rw [num_turned, Nat.xor_comm, ← Nat.xor_assoc, Nat.xor_self, Nat.zero_xor]) he
    unfold nats at this
    exact (List.map_inj_right (fun x y h => UInt8.toNat_inj.1 h)).1 this

theorem hit_yes (b k : Nat) (h : b / 2 ^ k % 2 = 1) : (((b : Int) / 2 ^ k).tmod 2 == 1) = true := by
  have e : ((b : Int) / 2 ^ k) = ((b / 2 ^ k : Nat) : Int) := by rw [Int.natCast_ediv]; simp
  rw [e, beq_iff_eq, Int.tmod_eq_emod_of_nonneg (Int.natCast_nonneg _)]
  generalize b / 2 ^ k = m at *
  omega
theorem hit_no (b k : Nat) (h : ¬ b / 2 ^ k % 2 = 1) : (((b : Int) / 2 ^ k).tmod 2 == 1) = false := by
  have e : ((b : Int) / 2 ^ k) = ((b / 2 ^ k : Nat) : Int) := by rw [Int.natCast_ediv]; simp
  rw [e, beq_eq_false_iff_ne, Int.tmod_eq_emod_of_nonneg (Int.natCast_nonneg _)]
  generalize b / 2 ^ k = m at *
  omega
theorem flip_u8 (x : UInt8) (m : Nat) (h : m < 8) : bits BinOp.xor IntKind.u8 ((x.toNat : Nat) : Int) ((2 : Int) ^ m % 256) = (((x ^^^ UInt8.ofNat (2 ^ m)).toNat : Nat) : Int) := by
  have h1 := pow_lt_256 m h
  have e : ((2 : Int) ^ m % 256) = ((2 ^ m : Nat) : Int) := by
    have : ((2 : Int) ^ m) = ((2 ^ m : Nat) : Int) := by simp
    rw [this]
    generalize 2 ^ m = q at *
    omega
  rw [e, xor_u8 _ _ x.toNat_lt h1, UInt8.toNat_xor, UInt8.toNat_ofNat', Nat.mod_eq_of_lt h1]
def BurstRel (b : List UInt8) (first burst : Nat) (w : World) (v i : Value) (wr : World) : Prop :=
  ∃ k : Nat, k ≤ 32 ∧ i = .int .i64 (k : Int) ∧ OwnB 5 wr w.heap.size v (turned b first burst (8 * b.length) k) ∧ Below w.heap.size w wr

set_option maxHeartbeats 2000000 in
theorem bursts_calls (A : Option Addr) (c : Nat) (b : List UInt8) (at_ : Int) (burst : Nat) (w : World) (hl : b.length ≤ 140737488355328)
    (hr : Reads w A b) (ht : Table w) :
    Calls Tryd.prog 8 #[.slice A b.length c, .int .i64 at_, .int .u32 (burst : Int)] w fun e w' => e = .returned (.bool true) ∧ Below w.heap.size w w' := by
  have HT := Lib.hid ht
  have HR := Lib.hid hr
  clear ht hr
  by_cases h0 : b.length = 0
  · have hz : (8 * (b.length : Int) == 0) = true := by rw [h0]; rfl
    have H0 := Lib.hid h0
    clear h0
    go_enter Tryd.func8, Tryd.ntmps8
    go_wp2_with fail
    refine (live_calls _ HT.out).mono ?_
    rintro e w1 ⟨rfl, hb⟩
    have HB := Lib.hid hb
    clear hb
    go_wp2_with fail
    go_ret
    exact ⟨rfl, HB.out⟩
  · have hz : (8 * (b.length : Int) == 0) = false := by rw [beq_eq_false_iff_ne]; omega
    have hpos : 1 ≤ 8 * (b.length : Int) := by omega
    obtain ⟨T, hT⟩ : ∃ T, at_.tmod (8 * (b.length : Int)) = T := ⟨_, rfl⟩
    have t1 : T < 8 * (b.length : Int) := by rw [← hT]; exact Int.tmod_lt_of_pos _ (by omega)
    have t2 : -(8 * (b.length : Int)) < T := by rw [← hT]; exact Int.lt_tmod_of_pos _ (by omega)
    by_cases tn : T < 0
    · obtain ⟨F, hF⟩ : ∃ F : Nat, T + 8 * (b.length : Int) = (F : Int) := ⟨(T + 8 * (b.length : Int)).toNat, by omega⟩
      have f1 : F < 8 * b.length := by omega
      go_enter Tryd.func8, Tryd.ntmps8
      go_wp2_with (at_builtin; refine wpList_append_bytes (w0 := w) w.heap.size rfl _ _ 25 5 rfl Tryd.underlying25 info_u8 _ [] b rfl (OwnB.lit 5 w w.heap.size [] #[] rfl (Nat.le_refl _) (by decide)) A c rfl (by exact HR.out.below ((Below.refl _ _).alloc (Nat.le_refl _) _)) (by simpa using hl) (by simp) (by exact (Below.refl _ _).alloc (Nat.le_refl _) _) ?_)
      intro v1 w1 (hown : OwnB 5 w1 w.heap.size v1 b) hbel hg0 hg1
      clear hg0 hg1
      obtain ⟨g, cx, rfl, hg, hcx, hcx2⟩ := hown.block (by omega)
      have HO := Lib.hid hown
      have HB := Lib.hid hbel
      clear hown hbel hT hF tn t1 t2 hz
      go_wp2
      go_loopw [10] (fun i wr => BurstRel b F burst w (.slice (some ⟨g, 0, none⟩) b.length cx) i wr) (fun i _ => 32 - (intOf i).toNat)
      case atStart => exact ⟨0, by omega, rfl, HO.out, HB.out⟩
      case round =>
        obtain ⟨k, hk, rfl, hown, hbel⟩ := hrel
        clear HO HB
        have HO := Lib.hid hown
        have HB := Lib.hid hbel
        clear hown hbel
        by_cases hlt : k < 32
        · by_cases q1 : F + k < 8 * b.length
          · by_cases q2 : burst / 2 ^ k % 2 = 1
            · have hq : (((burst : Int) / 2 ^ k).tmod 2 == 1) = true := hit_yes burst k q2
              have htl := turned_length b F burst (8 * b.length) k
              have hnext : turned b F burst (8 * b.length) (k + 1) = flip (turned b F burst (8 * b.length) k) (F + k) := by
                show (if hits F burst (8 * b.length) k = true then _ else _) = _
                rw [if_pos (by simp [hits, q1, q2])]
              have hix : (F + k) / 8 < (turned b F burst (8 * b.length) k).length := by rw [htl]; omega
              obtain ⟨hc, hf⟩ := HO.out.cell ((F + k) / 8) hix
              have hst := OwnB.store (l := turned b F burst (8 * b.length) k) (g := g) (c := cx) (by rw [htl]; exact HO.out) ((F + k) / 8) ((turned b F burst (8 * b.length) k)[(F + k) / 8] ^^^ UInt8.ofNat (2 ^ ((F + k) % 8)))
              have hfl : (turned b F burst (8 * b.length) k).set ((F + k) / 8) ((turned b F burst (8 * b.length) k)[(F + k) / 8] ^^^ UInt8.ofNat (2 ^ ((F + k) % 8))) = flip (turned b F burst (8 * b.length) k) (F + k) := by
                unfold flip
                simp [List.getD_eq_getElem?_getD, hix]
              rw [hfl, ← hnext, htl] at hst
              have HS := Lib.hid hst
              clear hst hfl hnext htl q2
              generalize (turned b F burst (8 * b.length) k)[(F + k) / 8] = x at *
              go_wp2
              rw [flip_u8 x ((F + k) % 8) (mod8_lt _)]
              exact ⟨⟨k + 1, by omega, by go_num, HS.out.1, HB.out.setCell hg _⟩, by simp [intOf]; omega⟩
            · have hq : (((burst : Int) / 2 ^ k).tmod 2 == 1) = false := hit_no burst k q2
              have hnext : turned b F burst (8 * b.length) (k + 1) = turned b F burst (8 * b.length) k := by
                show (if hits F burst (8 * b.length) k = true then _ else _) = _
                rw [if_neg (by simp [hits, q2])]
              have hN := Lib.hid hnext
              clear hnext q2
              go_wp2
              exact ⟨⟨k + 1, by omega, by go_num, by rw [hN.out]; exact HO.out, HB.out⟩, by simp [intOf]; omega⟩
          · have hnext : turned b F burst (8 * b.length) (k + 1) = turned b F burst (8 * b.length) k := by
              show (if hits F burst (8 * b.length) k = true then _ else _) = _
              rw [if_neg (by simp [hits, q1])]
            have hN := Lib.hid hnext
            clear hnext
            go_wp2
            exact ⟨⟨k + 1, by omega, by go_num, by rw [hN.out]; exact HO.out, HB.out⟩, by simp [intOf]; omega⟩
        · obtain rfl : k = 32 := by omega
          have htell := burst_tells b F burst (by omega)
          have htl := turned_length b F burst (8 * b.length) 32
          have hO := HO.out
          clear HO
          generalize turned b F burst (8 * b.length) 32 = x at *
          rw [← htl] at hO
          obtain ⟨X, cX, e1, _, hrx, _⟩ := hO.form
          injection e1 with e1 e2 e3
          subst e1
          subst e3
          clear hO e2
          have ksame : ∀ w', Keeps wr w' → Calls Tryd.prog 14 #[.slice (some ⟨g, 0, none⟩) b.length cx, .slice A b.length c] w' fun e w'' => e = .returned (.bool (decide (x = b))) ∧ Keeps wr w'' := by
            intro w' hw
            have h := same_calls (some ⟨g, 0, none⟩) A cx c x b w' (by omega) (by omega) (hrx.below hw) ((HR.out.below HB.out).below hw)
            rw [htl] at h
            exact keeps_q hw h
          have ksx : ∀ w', Keeps wr w' → Calls Tryd.prog 10 #[.slice (some ⟨g, 0, none⟩) b.length cx] w' fun e w'' => e = .returned (.int .u32 ((Crc.sum (nats x) : Nat) : Int)) ∧ Keeps wr w'' := by
            intro w' hw
            have h := sum_calls (some ⟨g, 0, none⟩) cx x w' (by omega) (hrx.below hw) ((HT.out.step HB.out).step hw)
            rw [htl] at h
            exact keeps_eq hw h
          have ksb : ∀ w', Keeps wr w' → Calls Tryd.prog 10 #[.slice A b.length c] w' fun e w'' => e = .returned (.int .u32 ((Crc.sum (nats b) : Nat) : Int)) ∧ Keeps wr w'' := fun w' hw =>
            keeps_eq hw (sum_calls A c b w' (by omega) ((HR.out.below HB.out).below hw) ((HT.out.step HB.out).step hw))
          have htell2 : (((Crc.sum (nats x) : Nat) : Int) == ((Crc.sum (nats b) : Nat) : Int)) = decide (x = b) := by
            rw [← htell, Bool.eq_iff_iff]; simp only [beq_iff_eq, decide_eq_true_eq]; omega
          generalize decide (x = b) = d at *
          generalize Crc.sum (nats x) = SX at *
          generalize Crc.sum (nats b) = SB at *
          have KL := Lib.hid (live_calls wr (HT.out.step HB.out))
          have KS := Lib.hid ksame
          have KX := Lib.hid ksx
          have KB := Lib.hid ksb
          clear ksame ksx ksb htell hrx htl
          go_wp2_with fail
          refine KL.out.mono ?_
          rintro e w2 ⟨rfl, hk2⟩
          have HK := Lib.hid (Keeps.of hk2)
          clear hk2
          go_wp2_with fail
          refine (KS.out _ HK.out).mono ?_
          rintro e w3 ⟨rfl, hk3⟩
          clear HK
          have HK := Lib.hid hk3
          clear hk3
          go_wp2_with fail
          refine (KX.out _ HK.out).mono ?_
          rintro e w4 ⟨rfl, hk4⟩
          clear HK
          have HK := Lib.hid hk4
          clear hk4
          go_wp2_with fail
          refine (KB.out _ HK.out).mono ?_
          rintro e w5 ⟨rfl, hk5⟩
          have HF := Lib.hid (HB.out.trans (hk5.below.mono HB.out.size))
          clear hk5
          go_wp2_with fail
          go_ret
          exact ⟨rfl, HF.out⟩
    · obtain ⟨F, hF⟩ : ∃ F : Nat, T = (F : Int) := ⟨(T).toNat, by omega⟩
      have f1 : F < 8 * b.length := by omega
      go_enter Tryd.func8, Tryd.ntmps8
      go_wp2_with (at_builtin; refine wpList_append_bytes (w0 := w) w.heap.size rfl _ _ 25 5 rfl Tryd.underlying25 info_u8 _ [] b rfl (OwnB.lit 5 w w.heap.size [] #[] rfl (Nat.le_refl _) (by decide)) A c rfl (by exact HR.out.below ((Below.refl _ _).alloc (Nat.le_refl _) _)) (by simpa using hl) (by simp) (by exact (Below.refl _ _).alloc (Nat.le_refl _) _) ?_)
      intro v1 w1 (hown : OwnB 5 w1 w.heap.size v1 b) hbel hg0 hg1
      clear hg0 hg1
      obtain ⟨g, cx, rfl, hg, hcx, hcx2⟩ := hown.block (by omega)
      have HO := Lib.hid hown
      have HB := Lib.hid hbel
      clear hown hbel hT hF tn t1 t2 hz
      go_wp2
      go_loopw [10] (fun i wr => BurstRel b F burst w (.slice (some ⟨g, 0, none⟩) b.length cx) i wr) (fun i _ => 32 - (intOf i).toNat)
      case atStart => exact ⟨0, by omega, rfl, HO.out, HB.out⟩
      case round =>
        obtain ⟨k, hk, rfl, hown, hbel⟩ := hrel
        clear HO HB
        have HO := Lib.hid hown
        have HB := Lib.hid hbel
        clear hown hbel
        by_cases hlt : k < 32
        · by_cases q1 : F + k < 8 * b.length
          · by_cases q2 : burst / 2 ^ k % 2 = 1
            · have hq : (((burst : Int) / 2 ^ k).tmod 2 == 1) = true := hit_yes burst k q2
              have htl := turned_length b F burst (8 * b.length) k
              have hnext : turned b F burst (8 * b.length) (k + 1) = flip (turned b F burst (8 * b.length) k) (F + k) := by
                show (if hits F burst (8 * b.length) k = true then _ else _) = _
                rw [if_pos (by simp [hits, q1, q2])]
              have hix : (F + k) / 8 < (turned b F burst (8 * b.length) k).length := by rw [htl]; omega
              obtain ⟨hc, hf⟩ := HO.out.cell ((F + k) / 8) hix
              have hst := OwnB.store (l := turned b F burst (8 * b.length) k) (g := g) (c := cx) (by rw [htl]; exact HO.out) ((F + k) / 8) ((turned b F burst (8 * b.length) k)[(F + k) / 8] ^^^ UInt8.ofNat (2 ^ ((F + k) % 8)))
              have hfl : (turned b F burst (8 * b.length) k).set ((F + k) / 8) ((turned b F burst (8 * b.length) k)[(F + k) / 8] ^^^ UInt8.ofNat (2 ^ ((F + k) % 8))) = flip (turned b F burst (8 * b.length) k) (F + k) := by
                unfold flip
                simp [List.getD_eq_getElem?_getD, hix]
              rw [hfl, ← hnext, htl] at hst
              have HS := Lib.hid hst
              clear hst hfl hnext htl q2
              generalize (turned b F burst (8 * b.length) k)[(F + k) / 8] = x at *
              go_wp2
              rw [flip_u8 x ((F + k) % 8) (mod8_lt _)]
              exact ⟨⟨k + 1, by omega, by go_num, HS.out.1, HB.out.setCell hg _⟩, by simp [intOf]; omega⟩
            · have hq : (((burst : Int) / 2 ^ k).tmod 2 == 1) = false := hit_no burst k q2
              have hnext : turned b F burst (8 * b.length) (k + 1) = turned b F burst (8 * b.length) k := by
                show (if hits F burst (8 * b.length) k = true then _ else _) = _
                rw [if_neg (by simp [hits, q2])]
              have hN := Lib.hid hnext
              clear hnext q2
              go_wp2
              exact ⟨⟨k + 1, by omega, by go_num, by rw [hN.out]; exact HO.out, HB.out⟩, by simp [intOf]; omega⟩
          · have hnext : turned b F burst (8 * b.length) (k + 1) = turned b F burst (8 * b.length) k := by
              show (if hits F burst (8 * b.length) k = true then _ else _) = _
              rw [if_neg (by simp [hits, q1])]
            have hN := Lib.hid hnext
            clear hnext
            go_wp2
            exact ⟨⟨k + 1, by omega, by go_num, by rw [hN.out]; exact HO.out, HB.out⟩, by simp [intOf]; omega⟩
        · obtain rfl : k = 32 := by omega
          have htell := burst_tells b F burst (by omega)
          have htl := turned_length b F burst (8 * b.length) 32
          have hO := HO.out
          clear HO
          generalize turned b F burst (8 * b.length) 32 = x at *
          rw [← htl] at hO
          obtain ⟨X, cX, e1, _, hrx, _⟩ := hO.form
          injection e1 with e1 e2 e3
          subst e1
          subst e3
          clear hO e2
          have ksame : ∀ w', Keeps wr w' → Calls Tryd.prog 14 #[.slice (some ⟨g, 0, none⟩) b.length cx, .slice A b.length c] w' fun e w'' => e = .returned (.bool (decide (x = b))) ∧ Keeps wr w'' := by
            intro w' hw
            have h := same_calls (some ⟨g, 0, none⟩) A cx c x b w' (by omega) (by omega) (hrx.below hw) ((HR.out.below HB.out).below hw)
            rw [htl] at h
            exact keeps_q hw h
          have ksx : ∀ w', Keeps wr w' → Calls Tryd.prog 10 #[.slice (some ⟨g, 0, none⟩) b.length cx] w' fun e w'' => e = .returned (.int .u32 ((Crc.sum (nats x) : Nat) : Int)) ∧ Keeps wr w'' := by
            intro w' hw
            have h := sum_calls (some ⟨g, 0, none⟩) cx x w' (by omega) (hrx.below hw) ((HT.out.step HB.out).step hw)
            rw [htl] at h
            exact keeps_eq hw h
          have ksb : ∀ w', Keeps wr w' → Calls Tryd.prog 10 #[.slice A b.length c] w' fun e w'' => e = .returned (.int .u32 ((Crc.sum (nats b) : Nat) : Int)) ∧ Keeps wr w'' := fun w' hw =>
            keeps_eq hw (sum_calls A c b w' (by omega) ((HR.out.below HB.out).below hw) ((HT.out.step HB.out).step hw))
          have htell2 : (((Crc.sum (nats x) : Nat) : Int) == ((Crc.sum (nats b) : Nat) : Int)) = decide (x = b) := by
            rw [← htell, Bool.eq_iff_iff]; simp only [beq_iff_eq, decide_eq_true_eq]; omega
          generalize decide (x = b) = d at *
          generalize Crc.sum (nats x) = SX at *
          generalize Crc.sum (nats b) = SB at *
          have KL := Lib.hid (live_calls wr (HT.out.step HB.out))
          have KS := Lib.hid ksame
          have KX := Lib.hid ksx
          have KB := Lib.hid ksb
          clear ksame ksx ksb htell hrx htl
          go_wp2_with fail
          refine KL.out.mono ?_
          rintro e w2 ⟨rfl, hk2⟩
          have HK := Lib.hid (Keeps.of hk2)
          clear hk2
          go_wp2_with fail
          refine (KS.out _ HK.out).mono ?_
          rintro e w3 ⟨rfl, hk3⟩
          clear HK
          have HK := Lib.hid hk3
          clear hk3
          go_wp2_with fail
          refine (KX.out _ HK.out).mono ?_
          rintro e w4 ⟨rfl, hk4⟩
          clear HK
          have HK := Lib.hid hk4
          clear hk4
          go_wp2_with fail
          refine (KB.out _ HK.out).mono ?_
          rintro e w5 ⟨rfl, hk5⟩
          have HF := Lib.hid (HB.out.trans (hk5.below.mono HB.out.size))
          clear hk5
          go_wp2_with fail
          go_ret
          exact ⟨rfl, HF.out⟩
end Go.Proofs.YtnfefjlplipeiaaDoor
