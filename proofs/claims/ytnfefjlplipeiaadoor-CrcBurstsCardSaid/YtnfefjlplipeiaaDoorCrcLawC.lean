/-
  The walk of the law CrcLinear: it returns true, and what was there before is as it was. Condition: the arguments read as lists of bytes; the table of halves holds its numbers.
-/
import Derived.Test.YtnfefjlplipeiaaDoorCrcLawA
import Derived.Deep.OwnRows
import Derived.RegionTactic
namespace Go.Proofs.YtnfefjlplipeiaaDoor
open Go.RowKit Go.BigFrame

theorem nats_zip (a b : List UInt8) : nats (List.zipWith (· ^^^ ·) a b) = Crc.xors (nats a) (nats b) := by
  induction a generalizing b with
  | nil => simp [nats, Crc.xors]
  | cons x a ih =>
    cases b with
    | nil => simp [nats, Crc.xors]
    | cons y b => 
      have := ih b
      simp only [nats, Crc.xors, List.zipWith_cons_cons, List.map_cons, UInt8.toNat_xor, List.cons.injEq, true_and] at this ⊢
      exact this
def xor3 (a b c : List UInt8) : List UInt8 := List.zipWith (· ^^^ ·) (List.zipWith (· ^^^ ·) a b) c
theorem xor3_get (a b c : List UInt8) (k : Nat) (h1 : k < a.length) (h2 : k < b.length) (h3 : k < c.length) : (xor3 a b c)[k]? = some (a[k] ^^^ b[k] ^^^ c[k]) := by
  simp [xor3, List.getElem?_zipWith, h1, h2, h3]
theorem xor3_length (a b c : List UInt8) (n : Nat) (h1 : a.length = n) (h2 : b.length = n) (h3 : c.length = n) : (xor3 a b c).length = n := by simp [xor3]; omega
/-- how far the list is filled -/
def fill (x : List UInt8) (n k : Nat) : List UInt8 := x.take k ++ List.replicate (n - k) 0
theorem fill_length (x : List UInt8) (n k : Nat) (h : x.length = n) (hk : k ≤ n) : (fill x n k).length = n := by simp [fill]; omega
theorem fill_zero (x : List UInt8) (n : Nat) : fill x n 0 = List.replicate n 0 := by simp [fill]
theorem fill_all (x : List UInt8) (n : Nat) (h : x.length = n) : fill x n n = x := by simp [fill, ← h]
theorem fill_set (x : List UInt8) (n k : Nat) (v : UInt8) (h : x.length = n) (hk : k < n) (hv : x[k]? = some v) : (fill x n k).set k v = fill x n (k + 1) := by
  have e1 : List.replicate (n - k) (0 : UInt8) = 0 :: List.replicate (n - (k + 1)) 0 := by
    rw [show n - k = (n - (k + 1)) + 1 by omega, List.replicate_succ]
  have hl : (x.take k).length = k := by simp; omega
  have hk' : k < x.length := by omega
  unfold fill
  rw [e1, List.set_append_right _ _ (by omega), hl, Nat.sub_self, List.set_cons_zero, List.take_succ_eq_append_getElem hk', List.append_assoc]
  rw [List.getElem?_eq_getElem hk'] at hv
  cases hv
  rfl

theorem xor_u8 (a b : Nat) (ha : a < 256) (hb : b < 256) : bits BinOp.xor IntKind.u8 (a : Int) (b : Int) = ((a ^^^ b : Nat) : Int) := u8_xor_nat a b ha hb
theorem xor3_nats (a b c : List UInt8) : nats (xor3 a b c) = Crc.xors (Crc.xors (nats a) (nats b)) (nats c) := by
  unfold xor3; rw [nats_zip, nats_zip]
/-- a fresh row of noughts -/
theorem own_zeros (e : TypeId) (w : World) (n : Nat) (hn : n ≤ 9223372036854775807) : OwnB e (w.alloc (.cells (madeCells #[.int .u8 0] n) e)) w.heap.size (.slice (some ⟨w.heap.size, 0, none⟩) n n) (List.replicate n 0) := by
  have h := OwnB.lit e w w.heap.size (List.replicate n 0) (madeCells #[.int .u8 0] n) (by
    apply List.ext_getElem
    · simp [u8s, madeCells]
    · intro i h1 h2
      simp [u8s, madeCells, Nat.mod_one]) (Nat.le_refl _) (by simpa using hn)
  simpa using h
theorem fill_get (x : List UInt8) (n k i : Nat) (h : x.length = n) (hk : k ≤ n) (hi : i < n) : i < (fill x n k).length := by rw [fill_length x n k h hk]; exact hi
def LinRel (a b c : List UInt8) (n : Nat) (w : World) (i : Value) (wr : World) : Prop :=
  ∃ k : Nat, k ≤ n ∧ i = .int .i64 (k : Int) ∧ OwnB 5 wr w.heap.size (.slice (some ⟨w.heap.size, 0, none⟩) n n) (fill (xor3 a b c) n k) ∧ Below w.heap.size w wr

set_option maxHeartbeats 1000000 in
theorem linear_loop (A B C : Option Addr) (ca cb cc na nb nc : Nat) (a b c : List UInt8) (w : World) (ha0 : Hid (a.length = na)) (hb0 : Hid (b.length = nb)) (hc0 : Hid (c.length = nc))
    (la : na ≤ 140737488355328) (lb : nb ≤ 140737488355328) (lc : nc ≤ 140737488355328) (ka : na ≤ ca) (kb : nb ≤ cb) (kc : nc ≤ cc) (HA : Hid (Reads w A a)) (HB : Hid (Reads w B b)) (HC : Hid (Reads w C c)) (HT : Hid (Table w)) :
    Calls Tryd.prog 7 #[.slice A na ca, .slice B nb cb, .slice C nc cc] w fun e w' => e = .returned (.bool true) ∧ Below w.heap.size w w' := by
  have hmk := fun (m : Nat) (hm : m ≤ 140737488355328) => run_make_row' (P := Tryd.prog) 25 5 (.int .u8 0) 1 Tryd.underlying25 info_u8 rfl .i64 .i64 m (by omega) (by omega) w
  have hcase : (¬ nb < na ∧ ¬ nc < na) ∨ (nb < na ∧ ¬ nc < nb) ∨ (¬ nb < na ∧ nc < na) ∨ (nb < na ∧ nc < nb) := by omega
  rcases hcase with ⟨h1, h2⟩ | ⟨h1, h2⟩ | ⟨h1, h2⟩ | ⟨h1, h2⟩
  · have hm := hmk na (by omega)
    clear hmk
    go_enter Tryd.func7, Tryd.ntmps7
    go_wp2
    clear hm
    have hx : (xor3 (a.take na) (b.take na) (c.take na)).length = na := xor3_length _ _ _ na (by rw [List.length_take, ha0.out]; omega) (by rw [List.length_take, hb0.out]; omega) (by rw [List.length_take, hc0.out]; omega)
    have HX := Lib.hid hx
    clear hx
    go_loopw [9] (fun i wr => LinRel (a.take na) (b.take na) (c.take na) na w i wr) (fun i _ => na - (intOf i).toNat)
    case atStart => exact ⟨0, Nat.zero_le _, rfl, by rw [fill_zero]; exact own_zeros _ w na (by omega), (Below.refl _ _).alloc (Nat.le_refl _) _⟩
    case round =>
      obtain ⟨k, hk, rfl, hown, hbel⟩ := hrel
      have HO := Lib.hid hown
      have HW := Lib.hid hbel
      clear hown hbel
      by_cases hlt : k < na
      · obtain ⟨aA, rfl, c1⟩ := (HA.out.below HW.out).out k (by rw [ha0.out]; omega)
        obtain ⟨aB, rfl, c2⟩ := (HB.out.below HW.out).out k (by rw [hb0.out]; omega)
        obtain ⟨aC, rfl, c3⟩ := (HC.out.below HW.out).out k (by rw [hc0.out]; omega)
        have hv : (xor3 (a.take na) (b.take na) (c.take na))[k]? = some (a[k]'(by rw [ha0.out]; omega) ^^^ b[k]'(by rw [hb0.out]; omega) ^^^ c[k]'(by rw [hc0.out]; omega)) := by
          rw [xor3_get _ _ _ k (by rw [List.length_take, ha0.out]; omega) (by rw [List.length_take, hb0.out]; omega) (by rw [List.length_take, hc0.out]; omega)]
          simp
        have HV := Lib.hid (fill_set _ na k _ HX.out hlt hv)
        clear hv
        generalize a[k]'(by rw [ha0.out]; omega) = x at *
        generalize b[k]'(by rw [hb0.out]; omega) = y at *
        generalize c[k]'(by rw [hc0.out]; omega) = z at *
        have e1 := xor_u8 x.toNat y.toNat x.toNat_lt y.toNat_lt
        have e2 := xor_u8 (x.toNat ^^^ y.toNat) z.toNat (Nat.xor_lt_two_pow (n := 8) x.toNat_lt y.toNat_lt) z.toNat_lt
        have e3 : x.toNat ^^^ y.toNat ^^^ z.toNat = (x ^^^ y ^^^ z).toNat := by rw [UInt8.toNat_xor, UInt8.toNat_xor]
        rw [e3] at e2
        have hfl : k < (fill (xor3 (a.take na) (b.take na) (c.take na)) na k).length := fill_get _ _ _ _ HX.out hk hlt
        obtain ⟨o4, c4, f4⟩ : ∃ o, wr.cell? ⟨w.heap.size, k, none⟩ = some o ∧ wr.frozen? ⟨w.heap.size, k, none⟩ = false := ⟨_, HO.out.cell k hfl⟩
        have hst := OwnB.store (l := fill (xor3 (a.take na) (b.take na) (c.take na)) na k) (g := w.heap.size) (c := na) (by rw [fill_length _ _ _ HX.out hk]; exact HO.out) k (x ^^^ y ^^^ z)
        rw [HV.out, fill_length _ _ _ HX.out hk] at hst
        have HS := Lib.hid hst
        clear hst e3 hfl
        generalize (x ^^^ y ^^^ z) = r at *
        generalize (x.toNat ^^^ y.toNat) = q at *
        go_wp2
        go_region
        go_wp2
        exact ⟨⟨k + 1, by omega, by go_num, (HS.out.1.below (below_drewN (Below.refl _ _) 1)), ((HW.out.setCell (Nat.le_refl _) _)).drew⟩, by simp [intOf]; omega⟩
      · have hke : k = na := by omega
        subst hke
        have hO := HO.out
        rw [fill_all _ _ HX.out] at hO
        have hcs : ∀ (X : List UInt8) (A : Option Addr) (c : Nat), Reads w A X → k ≤ X.length → ∀ w', Keeps wr w' → Calls Tryd.prog 10 #[.slice A k c] w' fun e w'' => e = .returned (.int .u32 ((Crc.sum (nats (X.take k)) : Nat) : Int)) ∧ Keeps wr w'' := by
          intro X A c hr hk w' hw
          have hl : (X.take k).length = k := by rw [List.length_take]; omega
          have h := sum_calls A c (X.take k) w' (by omega) (((hr.take k).below HW.out).below hw) ((HT.out.step HW.out).step hw)
          rw [hl] at h
          exact keeps_eq hw h
        have hcx : ∀ w', Keeps wr w' → Calls Tryd.prog 10 #[.slice (some ⟨w.heap.size, 0, none⟩) k k] w' fun e w'' => e = .returned (.int .u32 ((Crc.sum (nats (xor3 (a.take k) (b.take k) (c.take k))) : Nat) : Int)) ∧ Keeps wr w'' := by
          intro w' hw
          obtain ⟨A', c', e1, _, hr, _⟩ := hO.form
          injection e1 with e1 e2 e3
          have h := sum_calls A' c' _ w' (by rw [← e2]; omega) (hr.below hw) ((HT.out.step HW.out).step hw)
          rw [← e1, ← e2, ← e3] at h
          exact keeps_eq hw h
        have hlive : ∀ w', Keeps wr w' → Calls Tryd.prog 9 #[] w' fun e w'' => e = .returned (.bool true) ∧ Keeps wr w'' := fun w' hw => keeps_b hw (live_calls w' ((HT.out.step HW.out).step hw))
        have hca := hcs a A ca HA.out (by rw [ha0.out]; omega)
        have hcb := hcs b B cb HB.out (by rw [hb0.out]; omega)
        have hcc := hcs c C cc HC.out (by rw [hc0.out]; omega)
        have hlin : Crc.sum (nats (xor3 (a.take k) (b.take k) (c.take k))) = Crc.sum (nats (a.take k)) ^^^ Crc.sum (nats (b.take k)) ^^^ Crc.sum (nats (c.take k)) := by
          rw [xor3_nats]
          exact Crc.sum_linear _ _ _ (by rw [nats_length, nats_length, List.length_take, List.length_take, ha0.out, hb0.out]; omega) (by rw [nats_length, nats_length, List.length_take, List.length_take, ha0.out, hc0.out]; omega)
        rw [hlin] at hcx
        have sA : Crc.sum (nats (a.take k)) < 4294967296 := Crc.upd_lt _ (by omega) (nats_lt _)
        have sB : Crc.sum (nats (b.take k)) < 4294967296 := Crc.upd_lt _ (by omega) (nats_lt _)
        have sC : Crc.sum (nats (c.take k)) < 4294967296 := Crc.upd_lt _ (by omega) (nats_lt _)
        generalize Crc.sum (nats (a.take k)) = SA at *
        generalize Crc.sum (nats (b.take k)) = SB at *
        generalize Crc.sum (nats (c.take k)) = SC at *
        have e1 := xor_u32 SA SB sA sB
        have e2 := xor_u32 (SA ^^^ SB) SC (Crc.xor_lt sA sB) sC
        generalize SA ^^^ SB ^^^ SC = S at *
        generalize SA ^^^ SB = S2 at *
        have KA := Lib.hid hca
        have KB := Lib.hid hcb
        have KC := Lib.hid hcc
        have KX := Lib.hid hcx
        have KL := Lib.hid hlive
        clear hca hcb hcc hcx hcs hlive hO hlin
        have ia : (k : Int) ≤ (ca : Int) := by omega
        have ib : (k : Int) ≤ (cb : Int) := by omega
        have ic : (k : Int) ≤ (cc : Int) := by omega
        go_wp2
        refine wp_region_class (w0 := wr) (by kernel_rfl) (by kernel_rfl) (Keeps.refl wr) ?_
        repeat (go_big_quiet_step (first
          | (intro hC; with_reducible exact KL.out _ hC)
          | (intro hC; with_reducible exact KX.out _ hC)
          | (intro hC; with_reducible exact KA.out _ hC)
          | (intro hC; with_reducible exact KB.out _ hC)
          | (intro hC; with_reducible exact KC.out _ hC)
          | (intro _; rfl)))
        refine wpQuiet_nil ?_
        intro w2 hw2
        have HF := Lib.hid (HW.out.trans (hw2.below.mono HW.out.size))
        clear hw2
        go_wp2
        go_ret
        exact ⟨rfl, HF.out⟩
  · have hm := hmk nb (by omega)
    clear hmk
    go_enter Tryd.func7, Tryd.ntmps7
    go_wp2
    clear hm
    have hx : (xor3 (a.take nb) (b.take nb) (c.take nb)).length = nb := xor3_length _ _ _ nb (by rw [List.length_take, ha0.out]; omega) (by rw [List.length_take, hb0.out]; omega) (by rw [List.length_take, hc0.out]; omega)
    have HX := Lib.hid hx
    clear hx
    go_loopw [9] (fun i wr => LinRel (a.take nb) (b.take nb) (c.take nb) nb w i wr) (fun i _ => nb - (intOf i).toNat)
    case atStart => exact ⟨0, Nat.zero_le _, rfl, by rw [fill_zero]; exact own_zeros _ w nb (by omega), (Below.refl _ _).alloc (Nat.le_refl _) _⟩
    case round =>
      obtain ⟨k, hk, rfl, hown, hbel⟩ := hrel
      have HO := Lib.hid hown
      have HW := Lib.hid hbel
      clear hown hbel
      by_cases hlt : k < nb
      · obtain ⟨aA, rfl, c1⟩ := (HA.out.below HW.out).out k (by rw [ha0.out]; omega)
        obtain ⟨aB, rfl, c2⟩ := (HB.out.below HW.out).out k (by rw [hb0.out]; omega)
        obtain ⟨aC, rfl, c3⟩ := (HC.out.below HW.out).out k (by rw [hc0.out]; omega)
        have hv : (xor3 (a.take nb) (b.take nb) (c.take nb))[k]? = some (a[k]'(by rw [ha0.out]; omega) ^^^ b[k]'(by rw [hb0.out]; omega) ^^^ c[k]'(by rw [hc0.out]; omega)) := by
          rw [xor3_get _ _ _ k (by rw [List.length_take, ha0.out]; omega) (by rw [List.length_take, hb0.out]; omega) (by rw [List.length_take, hc0.out]; omega)]
          simp
        have HV := Lib.hid (fill_set _ nb k _ HX.out hlt hv)
        clear hv
        generalize a[k]'(by rw [ha0.out]; omega) = x at *
        generalize b[k]'(by rw [hb0.out]; omega) = y at *
        generalize c[k]'(by rw [hc0.out]; omega) = z at *
        have e1 := xor_u8 x.toNat y.toNat x.toNat_lt y.toNat_lt
        have e2 := xor_u8 (x.toNat ^^^ y.toNat) z.toNat (Nat.xor_lt_two_pow (n := 8) x.toNat_lt y.toNat_lt) z.toNat_lt
        have e3 : x.toNat ^^^ y.toNat ^^^ z.toNat = (x ^^^ y ^^^ z).toNat := by rw [UInt8.toNat_xor, UInt8.toNat_xor]
        rw [e3] at e2
        have hfl : k < (fill (xor3 (a.take nb) (b.take nb) (c.take nb)) nb k).length := fill_get _ _ _ _ HX.out hk hlt
        obtain ⟨o4, c4, f4⟩ : ∃ o, wr.cell? ⟨w.heap.size, k, none⟩ = some o ∧ wr.frozen? ⟨w.heap.size, k, none⟩ = false := ⟨_, HO.out.cell k hfl⟩
        have hst := OwnB.store (l := fill (xor3 (a.take nb) (b.take nb) (c.take nb)) nb k) (g := w.heap.size) (c := nb) (by rw [fill_length _ _ _ HX.out hk]; exact HO.out) k (x ^^^ y ^^^ z)
        rw [HV.out, fill_length _ _ _ HX.out hk] at hst
        have HS := Lib.hid hst
        clear hst e3 hfl
        generalize (x ^^^ y ^^^ z) = r at *
        generalize (x.toNat ^^^ y.toNat) = q at *
        go_wp2
        go_region
        go_wp2
        exact ⟨⟨k + 1, by omega, by go_num, (HS.out.1.below (below_drewN (Below.refl _ _) 1)), ((HW.out.setCell (Nat.le_refl _) _)).drew⟩, by simp [intOf]; omega⟩
      · have hke : k = nb := by omega
        subst hke
        have hO := HO.out
        rw [fill_all _ _ HX.out] at hO
        have hcs : ∀ (X : List UInt8) (A : Option Addr) (c : Nat), Reads w A X → k ≤ X.length → ∀ w', Keeps wr w' → Calls Tryd.prog 10 #[.slice A k c] w' fun e w'' => e = .returned (.int .u32 ((Crc.sum (nats (X.take k)) : Nat) : Int)) ∧ Keeps wr w'' := by
          intro X A c hr hk w' hw
          have hl : (X.take k).length = k := by rw [List.length_take]; omega
          have h := sum_calls A c (X.take k) w' (by omega) (((hr.take k).below HW.out).below hw) ((HT.out.step HW.out).step hw)
          rw [hl] at h
          exact keeps_eq hw h
        have hcx : ∀ w', Keeps wr w' → Calls Tryd.prog 10 #[.slice (some ⟨w.heap.size, 0, none⟩) k k] w' fun e w'' => e = .returned (.int .u32 ((Crc.sum (nats (xor3 (a.take k) (b.take k) (c.take k))) : Nat) : Int)) ∧ Keeps wr w'' := by
          intro w' hw
          obtain ⟨A', c', e1, _, hr, _⟩ := hO.form
          injection e1 with e1 e2 e3
          have h := sum_calls A' c' _ w' (by rw [← e2]; omega) (hr.below hw) ((HT.out.step HW.out).step hw)
          rw [← e1, ← e2, ← e3] at h
          exact keeps_eq hw h
        have hlive : ∀ w', Keeps wr w' → Calls Tryd.prog 9 #[] w' fun e w'' => e = .returned (.bool true) ∧ Keeps wr w'' := fun w' hw => keeps_b hw (live_calls w' ((HT.out.step HW.out).step hw))
        have hca := hcs a A ca HA.out (by rw [ha0.out]; omega)
        have hcb := hcs b B cb HB.out (by rw [hb0.out]; omega)
        have hcc := hcs c C cc HC.out (by rw [hc0.out]; omega)
        have hlin : Crc.sum (nats (xor3 (a.take k) (b.take k) (c.take k))) = Crc.sum (nats (a.take k)) ^^^ Crc.sum (nats (b.take k)) ^^^ Crc.sum (nats (c.take k)) := by
          rw [xor3_nats]
          exact Crc.sum_linear _ _ _ (by rw [nats_length, nats_length, List.length_take, List.length_take, ha0.out, hb0.out]; omega) (by rw [nats_length, nats_length, List.length_take, List.length_take, ha0.out, hc0.out]; omega)
        rw [hlin] at hcx
        have sA : Crc.sum (nats (a.take k)) < 4294967296 := Crc.upd_lt _ (by omega) (nats_lt _)
        have sB : Crc.sum (nats (b.take k)) < 4294967296 := Crc.upd_lt _ (by omega) (nats_lt _)
        have sC : Crc.sum (nats (c.take k)) < 4294967296 := Crc.upd_lt _ (by omega) (nats_lt _)
        generalize Crc.sum (nats (a.take k)) = SA at *
        generalize Crc.sum (nats (b.take k)) = SB at *
        generalize Crc.sum (nats (c.take k)) = SC at *
        have e1 := xor_u32 SA SB sA sB
        have e2 := xor_u32 (SA ^^^ SB) SC (Crc.xor_lt sA sB) sC
        generalize SA ^^^ SB ^^^ SC = S at *
        generalize SA ^^^ SB = S2 at *
        have KA := Lib.hid hca
        have KB := Lib.hid hcb
        have KC := Lib.hid hcc
        have KX := Lib.hid hcx
        have KL := Lib.hid hlive
        clear hca hcb hcc hcx hcs hlive hO hlin
        have ia : (k : Int) ≤ (ca : Int) := by omega
        have ib : (k : Int) ≤ (cb : Int) := by omega
        have ic : (k : Int) ≤ (cc : Int) := by omega
        go_wp2
        refine wp_region_class (w0 := wr) (by kernel_rfl) (by kernel_rfl) (Keeps.refl wr) ?_
        repeat (go_big_quiet_step (first
          | (intro hC; with_reducible exact KL.out _ hC)
          | (intro hC; with_reducible exact KX.out _ hC)
          | (intro hC; with_reducible exact KA.out _ hC)
          | (intro hC; with_reducible exact KB.out _ hC)
          | (intro hC; with_reducible exact KC.out _ hC)
          | (intro _; rfl)))
        refine wpQuiet_nil ?_
        intro w2 hw2
        have HF := Lib.hid (HW.out.trans (hw2.below.mono HW.out.size))
        clear hw2
        go_wp2
        go_ret
        exact ⟨rfl, HF.out⟩
  · have hm := hmk nc (by omega)
    clear hmk
    go_enter Tryd.func7, Tryd.ntmps7
    go_wp2
    clear hm
    have hx : (xor3 (a.take nc) (b.take nc) (c.take nc)).length = nc := xor3_length _ _ _ nc (by rw [List.length_take, ha0.out]; omega) (by rw [List.length_take, hb0.out]; omega) (by rw [List.length_take, hc0.out]; omega)
    have HX := Lib.hid hx
    clear hx
    go_loopw [9] (fun i wr => LinRel (a.take nc) (b.take nc) (c.take nc) nc w i wr) (fun i _ => nc - (intOf i).toNat)
    case atStart => exact ⟨0, Nat.zero_le _, rfl, by rw [fill_zero]; exact own_zeros _ w nc (by omega), (Below.refl _ _).alloc (Nat.le_refl _) _⟩
    case round =>
      obtain ⟨k, hk, rfl, hown, hbel⟩ := hrel
      have HO := Lib.hid hown
      have HW := Lib.hid hbel
      clear hown hbel
      by_cases hlt : k < nc
      · obtain ⟨aA, rfl, c1⟩ := (HA.out.below HW.out).out k (by rw [ha0.out]; omega)
        obtain ⟨aB, rfl, c2⟩ := (HB.out.below HW.out).out k (by rw [hb0.out]; omega)
        obtain ⟨aC, rfl, c3⟩ := (HC.out.below HW.out).out k (by rw [hc0.out]; omega)
        have hv : (xor3 (a.take nc) (b.take nc) (c.take nc))[k]? = some (a[k]'(by rw [ha0.out]; omega) ^^^ b[k]'(by rw [hb0.out]; omega) ^^^ c[k]'(by rw [hc0.out]; omega)) := by
          rw [xor3_get _ _ _ k (by rw [List.length_take, ha0.out]; omega) (by rw [List.length_take, hb0.out]; omega) (by rw [List.length_take, hc0.out]; omega)]
          simp
        have HV := Lib.hid (fill_set _ nc k _ HX.out hlt hv)
        clear hv
        generalize a[k]'(by rw [ha0.out]; omega) = x at *
        generalize b[k]'(by rw [hb0.out]; omega) = y at *
        generalize c[k]'(by rw [hc0.out]; omega) = z at *
        have e1 := xor_u8 x.toNat y.toNat x.toNat_lt y.toNat_lt
        have e2 := xor_u8 (x.toNat ^^^ y.toNat) z.toNat (Nat.xor_lt_two_pow (n := 8) x.toNat_lt y.toNat_lt) z.toNat_lt
        have e3 : x.toNat ^^^ y.toNat ^^^ z.toNat = (x ^^^ y ^^^ z).toNat := by rw [UInt8.toNat_xor, UInt8.toNat_xor]
        rw [e3] at e2
        have hfl : k < (fill (xor3 (a.take nc) (b.take nc) (c.take nc)) nc k).length := fill_get _ _ _ _ HX.out hk hlt
        obtain ⟨o4, c4, f4⟩ : ∃ o, wr.cell? ⟨w.heap.size, k, none⟩ = some o ∧ wr.frozen? ⟨w.heap.size, k, none⟩ = false := ⟨_, HO.out.cell k hfl⟩
        have hst := OwnB.store (l := fill (xor3 (a.take nc) (b.take nc) (c.take nc)) nc k) (g := w.heap.size) (c := nc) (by rw [fill_length _ _ _ HX.out hk]; exact HO.out) k (x ^^^ y ^^^ z)
        rw [HV.out, fill_length _ _ _ HX.out hk] at hst
        have HS := Lib.hid hst
        clear hst e3 hfl
        generalize (x ^^^ y ^^^ z) = r at *
        generalize (x.toNat ^^^ y.toNat) = q at *
        go_wp2
        go_region
        go_wp2
        exact ⟨⟨k + 1, by omega, by go_num, (HS.out.1.below (below_drewN (Below.refl _ _) 1)), ((HW.out.setCell (Nat.le_refl _) _)).drew⟩, by simp [intOf]; omega⟩
      · have hke : k = nc := by omega
        subst hke
        have hO := HO.out
        rw [fill_all _ _ HX.out] at hO
        have hcs : ∀ (X : List UInt8) (A : Option Addr) (c : Nat), Reads w A X → k ≤ X.length → ∀ w', Keeps wr w' → Calls Tryd.prog 10 #[.slice A k c] w' fun e w'' => e = .returned (.int .u32 ((Crc.sum (nats (X.take k)) : Nat) : Int)) ∧ Keeps wr w'' := by
          intro X A c hr hk w' hw
          have hl : (X.take k).length = k := by rw [List.length_take]; omega
          have h := sum_calls A c (X.take k) w' (by omega) (((hr.take k).below HW.out).below hw) ((HT.out.step HW.out).step hw)
          rw [hl] at h
          exact keeps_eq hw h
        have hcx : ∀ w', Keeps wr w' → Calls Tryd.prog 10 #[.slice (some ⟨w.heap.size, 0, none⟩) k k] w' fun e w'' => e = .returned (.int .u32 ((Crc.sum (nats (xor3 (a.take k) (b.take k) (c.take k))) : Nat) : Int)) ∧ Keeps wr w'' := by
          intro w' hw
          obtain ⟨A', c', e1, _, hr, _⟩ := hO.form
          injection e1 with e1 e2 e3
          have h := sum_calls A' c' _ w' (by rw [← e2]; omega) (hr.below hw) ((HT.out.step HW.out).step hw)
          rw [← e1, ← e2, ← e3] at h
          exact keeps_eq hw h
        have hlive : ∀ w', Keeps wr w' → Calls Tryd.prog 9 #[] w' fun e w'' => e = .returned (.bool true) ∧ Keeps wr w'' := fun w' hw => keeps_b hw (live_calls w' ((HT.out.step HW.out).step hw))
        have hca := hcs a A ca HA.out (by rw [ha0.out]; omega)
        have hcb := hcs b B cb HB.out (by rw [hb0.out]; omega)
        have hcc := hcs c C cc HC.out (by rw [hc0.out]; omega)
        have hlin : Crc.sum (nats (xor3 (a.take k) (b.take k) (c.take k))) = Crc.sum (nats (a.take k)) ^^^ Crc.sum (nats (b.take k)) ^^^ Crc.sum (nats (c.take k)) := by
          rw [xor3_nats]
          exact Crc.sum_linear _ _ _ (by rw [nats_length, nats_length, List.length_take, List.length_take, ha0.out, hb0.out]; omega) (by rw [nats_length, nats_length, List.length_take, List.length_take, ha0.out, hc0.out]; omega)
        rw [hlin] at hcx
        have sA : Crc.sum (nats (a.take k)) < 4294967296 := Crc.upd_lt _ (by omega) (nats_lt _)
        have sB : Crc.sum (nats (b.take k)) < 4294967296 := Crc.upd_lt _ (by omega) (nats_lt _)
        have sC : Crc.sum (nats (c.take k)) < 4294967296 := Crc.upd_lt _ (by omega) (nats_lt _)
        generalize Crc.sum (nats (a.take k)) = SA at *
        generalize Crc.sum (nats (b.take k)) = SB at *
        generalize Crc.sum (nats (c.take k)) = SC at *
        have e1 := xor_u32 SA SB sA sB
        have e2 := xor_u32 (SA ^^^ SB) SC (Crc.xor_lt sA sB) sC
        generalize SA ^^^ SB ^^^ SC = S at *
        generalize SA ^^^ SB = S2 at *
        have KA := Lib.hid hca
        have KB := Lib.hid hcb
        have KC := Lib.hid hcc
        have KX := Lib.hid hcx
        have KL := Lib.hid hlive
        clear hca hcb hcc hcx hcs hlive hO hlin
        have ia : (k : Int) ≤ (ca : Int) := by omega
        have ib : (k : Int) ≤ (cb : Int) := by omega
        have ic : (k : Int) ≤ (cc : Int) := by omega
        go_wp2
        refine wp_region_class (w0 := wr) (by kernel_rfl) (by kernel_rfl) (Keeps.refl wr) ?_
        repeat (go_big_quiet_step (first
          | (intro hC; with_reducible exact KL.out _ hC)
          | (intro hC; with_reducible exact KX.out _ hC)
          | (intro hC; with_reducible exact KA.out _ hC)
          | (intro hC; with_reducible exact KB.out _ hC)
          | (intro hC; with_reducible exact KC.out _ hC)
          | (intro _; rfl)))
        refine wpQuiet_nil ?_
        intro w2 hw2
        have HF := Lib.hid (HW.out.trans (hw2.below.mono HW.out.size))
        clear hw2
        go_wp2
        go_ret
        exact ⟨rfl, HF.out⟩
  · have hm := hmk nc (by omega)
    clear hmk
    go_enter Tryd.func7, Tryd.ntmps7
    go_wp2
    clear hm
    have hx : (xor3 (a.take nc) (b.take nc) (c.take nc)).length = nc := xor3_length _ _ _ nc (by rw [List.length_take, ha0.out]; omega) (by rw [List.length_take, hb0.out]; omega) (by rw [List.length_take, hc0.out]; omega)
    have HX := Lib.hid hx
    clear hx
    go_loopw [9] (fun i wr => LinRel (a.take nc) (b.take nc) (c.take nc) nc w i wr) (fun i _ => nc - (intOf i).toNat)
    case atStart => exact ⟨0, Nat.zero_le _, rfl, by rw [fill_zero]; exact own_zeros _ w nc (by omega), (Below.refl _ _).alloc (Nat.le_refl _) _⟩
    case round =>
      obtain ⟨k, hk, rfl, hown, hbel⟩ := hrel
      have HO := Lib.hid hown
      have HW := Lib.hid hbel
      clear hown hbel
      by_cases hlt : k < nc
      · obtain ⟨aA, rfl, c1⟩ := (HA.out.below HW.out).out k (by rw [ha0.out]; omega)
        obtain ⟨aB, rfl, c2⟩ := (HB.out.below HW.out).out k (by rw [hb0.out]; omega)
        obtain ⟨aC, rfl, c3⟩ := (HC.out.below HW.out).out k (by rw [hc0.out]; omega)
        have hv : (xor3 (a.take nc) (b.take nc) (c.take nc))[k]? = some (a[k]'(by rw [ha0.out]; omega) ^^^ b[k]'(by rw [hb0.out]; omega) ^^^ c[k]'(by rw [hc0.out]; omega)) := by
          rw [xor3_get _ _ _ k (by rw [List.length_take, ha0.out]; omega) (by rw [List.length_take, hb0.out]; omega) (by rw [List.length_take, hc0.out]; omega)]
          simp
        have HV := Lib.hid (fill_set _ nc k _ HX.out hlt hv)
        clear hv
        generalize a[k]'(by rw [ha0.out]; omega) = x at *
        generalize b[k]'(by rw [hb0.out]; omega) = y at *
        generalize c[k]'(by rw [hc0.out]; omega) = z at *
        have e1 := xor_u8 x.toNat y.toNat x.toNat_lt y.toNat_lt
        have e2 := xor_u8 (x.toNat ^^^ y.toNat) z.toNat (Nat.xor_lt_two_pow (n := 8) x.toNat_lt y.toNat_lt) z.toNat_lt
        have e3 : x.toNat ^^^ y.toNat ^^^ z.toNat = (x ^^^ y ^^^ z).toNat := by rw [UInt8.toNat_xor, UInt8.toNat_xor]
        rw [e3] at e2
        have hfl : k < (fill (xor3 (a.take nc) (b.take nc) (c.take nc)) nc k).length := fill_get _ _ _ _ HX.out hk hlt
        obtain ⟨o4, c4, f4⟩ : ∃ o, wr.cell? ⟨w.heap.size, k, none⟩ = some o ∧ wr.frozen? ⟨w.heap.size, k, none⟩ = false := ⟨_, HO.out.cell k hfl⟩
        have hst := OwnB.store (l := fill (xor3 (a.take nc) (b.take nc) (c.take nc)) nc k) (g := w.heap.size) (c := nc) (by rw [fill_length _ _ _ HX.out hk]; exact HO.out) k (x ^^^ y ^^^ z)
        rw [HV.out, fill_length _ _ _ HX.out hk] at hst
        have HS := Lib.hid hst
        clear hst e3 hfl
        generalize (x ^^^ y ^^^ z) = r at *
        generalize (x.toNat ^^^ y.toNat) = q at *
        go_wp2
        go_region
        go_wp2
        exact ⟨⟨k + 1, by omega, by go_num, (HS.out.1.below (below_drewN (Below.refl _ _) 1)), ((HW.out.setCell (Nat.le_refl _) _)).drew⟩, by simp [intOf]; omega⟩
      · have hke : k = nc := by omega
        subst hke
        have hO := HO.out
        rw [fill_all _ _ HX.out] at hO
        have hcs : ∀ (X : List UInt8) (A : Option Addr) (c : Nat), Reads w A X → k ≤ X.length → ∀ w', Keeps wr w' → Calls Tryd.prog 10 #[.slice A k c] w' fun e w'' => e = .returned (.int .u32 ((Crc.sum (nats (X.take k)) : Nat) : Int)) ∧ Keeps wr w'' := by
          intro X A c hr hk w' hw
          have hl : (X.take k).length = k := by rw [List.length_take]; omega
          have h := sum_calls A c (X.take k) w' (by omega) (((hr.take k).below HW.out).below hw) ((HT.out.step HW.out).step hw)
          rw [hl] at h
          exact keeps_eq hw h
        have hcx : ∀ w', Keeps wr w' → Calls Tryd.prog 10 #[.slice (some ⟨w.heap.size, 0, none⟩) k k] w' fun e w'' => e = .returned (.int .u32 ((Crc.sum (nats (xor3 (a.take k) (b.take k) (c.take k))) : Nat) : Int)) ∧ Keeps wr w'' := by
          intro w' hw
          obtain ⟨A', c', e1, _, hr, _⟩ := hO.form
          injection e1 with e1 e2 e3
          have h := sum_calls A' c' _ w' (by rw [← e2]; omega) (hr.below hw) ((HT.out.step HW.out).step hw)
          rw [← e1, ← e2, ← e3] at h
          exact keeps_eq hw h
        have hlive : ∀ w', Keeps wr w' → Calls Tryd.prog 9 #[] w' fun e w'' => e = .returned (.bool true) ∧ Keeps wr w'' := fun w' hw => keeps_b hw (live_calls w' ((HT.out.step HW.out).step hw))
        have hca := hcs a A ca HA.out (by rw [ha0.out]; omega)
        have hcb := hcs b B cb HB.out (by rw [hb0.out]; omega)
        have hcc := hcs c C cc HC.out (by rw [hc0.out]; omega)
        have hlin : Crc.sum (nats (xor3 (a.take k) (b.take k) (c.take k))) = Crc.sum (nats (a.take k)) ^^^ Crc.sum (nats (b.take k)) ^^^ Crc.sum (nats (c.take k)) := by
          rw [xor3_nats]
          exact Crc.sum_linear _ _ _ (by rw [nats_length, nats_length, List.length_take, List.length_take, ha0.out, hb0.out]; omega) (by rw [nats_length, nats_length, List.length_take, List.length_take, ha0.out, hc0.out]; omega)
        rw [hlin] at hcx
        have sA : Crc.sum (nats (a.take k)) < 4294967296 := Crc.upd_lt _ (by omega) (nats_lt _)
        have sB : Crc.sum (nats (b.take k)) < 4294967296 := Crc.upd_lt _ (by omega) (nats_lt _)
        have sC : Crc.sum (nats (c.take k)) < 4294967296 := Crc.upd_lt _ (by omega) (nats_lt _)
        generalize Crc.sum (nats (a.take k)) = SA at *
        generalize Crc.sum (nats (b.take k)) = SB at *
        generalize Crc.sum (nats (c.take k)) = SC at *
        have e1 := xor_u32 SA SB sA sB
        have e2 := xor_u32 (SA ^^^ SB) SC (Crc.xor_lt sA sB) sC
        generalize SA ^^^ SB ^^^ SC = S at *
        generalize SA ^^^ SB = S2 at *
        have KA := Lib.hid hca
        have KB := Lib.hid hcb
        have KC := Lib.hid hcc
        have KX := Lib.hid hcx
        have KL := Lib.hid hlive
        clear hca hcb hcc hcx hcs hlive hO hlin
        have ia : (k : Int) ≤ (ca : Int) := by omega
        have ib : (k : Int) ≤ (cb : Int) := by omega
        have ic : (k : Int) ≤ (cc : Int) := by omega
        go_wp2
        refine wp_region_class (w0 := wr) (by kernel_rfl) (by kernel_rfl) (Keeps.refl wr) ?_
        repeat (go_big_quiet_step (first
          | (intro hC; with_reducible exact KL.out _ hC)
          | (intro hC; with_reducible exact KX.out _ hC)
          | (intro hC; with_reducible exact KA.out _ hC)
          | (intro hC; with_reducible exact KB.out _ hC)
          | (intro hC; with_reducible exact KC.out _ hC)
          | (intro _; rfl)))
        refine wpQuiet_nil ?_
        intro w2 hw2
        have HF := Lib.hid (HW.out.trans (hw2.below.mono HW.out.size))
        clear hw2
        go_wp2
        go_ret
        exact ⟨rfl, HF.out⟩
end Go.Proofs.YtnfefjlplipeiaaDoor
