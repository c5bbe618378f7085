/-
  The walk of the document's Stuff. Condition: the bytes read as a list. The walk of the document's Unstuff. Condition: the bytes read as a list. The walks of the document's Update and Sum of the check. Condition: the slice reads as a list of bytes. The walk of the reference's typeBytes. Condition: the value stands for a type that may be. The walk of the reference's Decode of a frame. Condition: the run reads.
-/
import Derived.Test.YtihodcnnappkbaaGreatDoorG6
import Derived.Test.YtihodcnnappkbaaGreatDoorG1
import Derived.Test.YtihodcnnappkbaaGreatDoorG4
import Derived.Test.YtihodcnnappkbaaGreatDoorG24
import Derived.Test.YtihodcnnappkbaaGreatDoorG9
import Derived.Test.YtihodcnnappkbaaGreatDoorG10
namespace Go.Proofs.YtihodcnnappkbaaGreatDoor
open Go.RowKit Go.BigFrame
set_option linter.unusedVariables false
set_option linter.unusedSimpArgs false
set_option linter.unusedSectionVars false
structure RefRel (w : World) (b : List UInt8) (v a o : Value) (wr : World) : Prop where
  out : ∃ (at_ : Nat) (st : List UInt8) (op : Bool), at_ ≤ b.length ∧ a = .int .i64 (at_ : Int) ∧ o = .bool op ∧ OwnB 5 wr w.heap.size v st ∧ st.length ≤ 2 * at_ + 2 ∧
    (if op = true then st ++ stuffOf (b.drop at_) = stuffOf b ∧ st.length ≤ 2 * at_ else st = stuffOf b) ∧ Keeps w wr
section
variable {w wr : World} {b l st : List UInt8} {cb : UInt8} {v : Value} {at_ q : Nat} (hN : q = (grp l).length) (hLL : at_ + l.length = b.length) (hL : l = b.drop at_) (hS : st ++ stuffOf l = stuffOf b) (hC : cb = UInt8.ofNat (q + 1)) (hsl : st.length ≤ 2 * at_)
  (hF : OwnB 5 wr w.heap.size v (st ++ [cb] ++ grp l)) (hK : Keeps w wr)
include hN hLL hL hS hC hsl hF hK
end
theorem nz_get (l : List UInt8) (k : Nat) (h : k < (nz l).length) : ∃ h2 : k < l.length, l[k]'h2 ≠ 0 := by
  have hl := nz_le l
  have h2 : k < l.length := by omega
  have e : l[k]? = (nz l ++ l.drop (nz l).length)[k]? := congrArg (fun x : List UInt8 => x[k]?) (nz_append l)
  rw [List.getElem?_append_left h, List.getElem?_eq_getElem h2, List.getElem?_eq_getElem h] at e
  injection e with e
  refine ⟨h2, ?_⟩
  rw [e]
  intro e0
  exact nz_no l (by rw [← e0]; exact List.getElem_mem h)
def endOf (last ahead : Nat) (b : List UInt8) : List UInt8 × Int := if last = 1 ∧ ahead = 255 then ([], 5) else (b, 0)
structure URel (w : World) (s : List UInt8) (v a la ah : Value) (wr : World) : Prop where
  out : ∃ (at_ last ahead : Nat) (b : List UInt8), at_ ≤ s.length ∧ a = .int .i64 (at_ : Int) ∧ la = .int .i64 (last : Int) ∧ ah = .int .i64 (ahead : Int) ∧ last ≤ 255 ∧ ahead ≤ 255 ∧ OwnB 5 wr w.heap.size v b ∧ b.length ≤ at_ ∧
    (at_ < s.length → unGo (s.drop at_) b (last == 255) = unstuffOf s) ∧ (¬ at_ < s.length → endOf last ahead b = unstuffOf s) ∧ Keeps w wr
section
variable {w wr : World} {s t b : List UInt8} {v : Value} {at_ last q : Nat} {full : Bool} (hlt : at_ + 1 + t.length = s.length) (ht : t = s.drop (at_ + 1)) (hq : q ≤ 254) (ha : ¬ t.length < q) (hbl : b.length ≤ at_) (hla : last ≤ 255)
  (hgo : (if t.length < q then (([] : List UInt8), (30 : Int)) else if t.length ≤ q then (if (last == 255) && q == 0 then ([], 5) else (b ++ t.take q, 0)) else unGo (t.drop q) (b ++ t.take q ++ (if q = 254 then [] else [0])) (q == 254)) = unstuffOf s) (hK : Keeps w wr)
include hlt ht hq ha hbl hla hgo hK
theorem u_end (h : t.length ≤ q) (hF : OwnB 5 wr w.heap.size v (b ++ t.take q)) : URel w s v (.int .i64 ((at_ : Int) + (q : Int) + 1)) (.int .i64 ((q : Int) + 1)) (.int .i64 (last : Int)) wr := by
  rw [if_neg ha, if_pos h] at hgo
  have hlen : (b ++ t.take q).length = b.length + q := by rw [List.length_append, List.length_take]; omega
  refine .mk ⟨at_ + q + 1, q + 1, last, _, by omega, by go_num, by go_num, rfl, by omega, hla, hF, by rw [hlen]; omega, fun h => by omega, fun _ => ?_, hK⟩
  rw [← hgo]
  unfold endOf
  by_cases h1 : last = 255 ∧ q = 0
  · rw [if_pos ⟨by omega, h1.1⟩, if_pos (by simp [h1.1, h1.2])]
  · rw [if_neg (fun h => h1 ⟨h.2, by omega⟩), if_neg (by simp only [Bool.and_eq_true, beq_iff_eq]; exact h1)]
theorem u_less (h : ¬ t.length ≤ q) (h2 : q < 254) (hF : OwnB 5 wr w.heap.size v (b ++ t.take q ++ [0])) : URel w s v (.int .i64 ((at_ : Int) + (q : Int) + 1)) (.int .i64 ((q : Int) + 1)) (.int .i64 (last : Int)) wr := by
  rw [if_neg ha, if_neg h, if_neg (show ¬ q = 254 by omega)] at hgo
  have hlen : (b ++ t.take q ++ [0]).length = b.length + q + 1 := by rw [List.length_append, List.length_append, List.length_take]; simp only [List.length_cons, List.length_nil]; omega
  refine .mk ⟨at_ + q + 1, q + 1, last, _, by omega, by go_num, by go_num, rfl, by omega, hla, hF, by rw [hlen]; omega, fun _ => ?_, fun h => by omega, hK⟩
  rw [← hgo, ht, List.drop_drop, show at_ + 1 + q = at_ + q + 1 by omega]
  congr 1
  rw [Bool.eq_iff_iff]
  simp
theorem u_full (h : ¬ t.length ≤ q) (h2 : ¬ q < 254) (hF : OwnB 5 wr w.heap.size v (b ++ t.take q)) : URel w s v (.int .i64 ((at_ : Int) + (q : Int) + 1)) (.int .i64 ((q : Int) + 1)) (.int .i64 (last : Int)) wr := by
  rw [if_neg ha, if_neg h, if_pos (show q = 254 by omega), List.append_nil] at hgo
  have hlen : (b ++ t.take q).length = b.length + q := by rw [List.length_append, List.length_take]; omega
  refine .mk ⟨at_ + q + 1, q + 1, last, _, by omega, by go_num, by go_num, rfl, by omega, hla, hF, by rw [hlen]; omega, fun _ => ?_, fun h => by omega, hK⟩
  rw [← hgo, ht, List.drop_drop, show at_ + 1 + q = at_ + q + 1 by omega]
  congr 1
  rw [Bool.eq_iff_iff]
  simp
end
set_option maxRecDepth 100000 in
set_option maxHeartbeats 4000000 in
theorem refUnstuff_calls (A : Option Addr) (c : Nat) (s : List UInt8) (w : World) (hl : s.length ≤ 274877906944) (hr : Reads w A s) :
    Calls Tryz.prog 94 #[.slice A s.length c] w (UnPost w (unstuffOf s)) := by
  have HR := Lib.hid hr
  have hnl := nz_le s
  clear hr
  go_enter Tryz.func94, Tryz.ntmps94
  go_wp2
  go_loopw [4] (fun i wz => ∃ k : Nat, k ≤ (nz s).length ∧ i = .int .i64 (k : Int) ∧ w = wz) (fun i _ => s.length - (intOf i).toNat)
  case atStart => exact ⟨0, Nat.zero_le _, rfl, rfl⟩
  case round =>
    obtain ⟨k, hk, rfl, rfl⟩ := hrel
    by_cases hkn : k < (nz s).length
    · obtain ⟨h2, h3⟩ := nz_get s k hkn
      obtain ⟨ad, rfl, hc⟩ := HR.out.out k h2
      have hz : ((((s[k]'h2).toNat : Nat) : Int) == 0) = false := by
        rw [beq_eq_false_iff_ne]; intro e; apply h3; exact UInt8.toNat_inj.1 (by simpa using e)
      clear h3
      go_wp2
      exact ⟨⟨k + 1, by omega, by go_num, trivial⟩, by simp [intOf]; omega⟩
    · by_cases hks : k < s.length
      · have hmem : (0 : UInt8) ∈ s := (nz_mem s).2 (by omega)
        have hz0 := nz_stop s (by omega)
        have hke : k = (nz s).length := by omega
        rw [← hke, List.getD_eq_getElem?_getD, List.getElem?_eq_getElem hks] at hz0
        simp only [Option.getD_some] at hz0
        obtain ⟨ad, rfl, hc⟩ := HR.out.out k hks
        rw [hz0] at hc
        have HU := Lib.hid (show unstuffOf s = ([], 40) by unfold unstuffOf; rw [if_pos hmem])
        clear hz0 hke hmem
        go_wp2
        go_ret2
        rw [HU.out]
        exact ⟨_, rfl, OwnB.nil _ _ _, Keeps.refl _⟩
      · have hno : (0 : UInt8) ∉ s := fun h => by have := (nz_mem s).1 h; omega
        have HNO := Lib.hid hno
        clear hno hkn
        by_cases hs0 : s.length = 0
        · have HU := Lib.hid (show unstuffOf s = ([], 30) by unfold unstuffOf; rw [if_neg HNO.out, if_pos hs0])
          go_wp2
          go_ret2
          rw [HU.out]
          exact ⟨_, rfl, OwnB.nil _ _ _, Keeps.refl _⟩
        · have HU := Lib.hid (show unGo s [] false = unstuffOf s by unfold unstuffOf; rw [if_neg HNO.out, if_neg hs0])
          have hs0' : ((s.length : Int) == 0) = false := by rw [beq_eq_false_iff_ne]; omega
          have hpos : 0 < s.length := by omega
          clear hs0
          go_wp2
          go_loopw [5, 6, 7, 8] (fun v a la ah wz => URel w s v a la ah wz) (fun _ a _ _ _ => s.length - (intOf a).toNat)
          case atStart => exact ⟨0, 0, 0, [], Nat.zero_le _, rfl, rfl, rfl, by omega, by omega, OwnB.nil _ _ _, by simp, fun _ => by simpa using HU.out, fun h => absurd hpos h, Keeps.refl _⟩
          case round =>
            obtain ⟨at_, last, ahead, b, hat, rfl, rfl, rfl, hla, hah, hown, hbl, hgo, hend, hkp⟩ := hrel
            have HO := Lib.hid hown
            have HK := Lib.hid hkp
            clear hown hkp HU
            by_cases hlt : at_ < s.length
            · have hgo2 := hgo hlt
              have hdrop := List.drop_eq_getElem_cons hlt
              obtain ⟨t, ht⟩ : ∃ t, t = s.drop (at_ + 1) := ⟨_, rfl⟩
              rw [hdrop, ← ht] at hgo2
              have htl : at_ + 1 + t.length = s.length := by rw [ht, List.length_drop]; omega
              have hc0 : (s[at_]'hlt).toNat ≠ 0 := fun e => HNO.out (by rw [show (0 : UInt8) = s[at_]'hlt from (UInt8.toNat_inj.1 (by simpa using e)).symm]; exact List.getElem_mem hlt)
              have hc1 : (s[at_]'hlt).toNat < 256 := UInt8.toNat_lt _
              obtain ⟨q, hq1⟩ : ∃ q, (s[at_]'hlt).toNat = q + 1 := ⟨(s[at_]'hlt).toNat - 1, by omega⟩
              rw [unGo_cons, hq1, Nat.add_sub_cancel] at hgo2
              have hq254 : q ≤ 254 := by omega
              obtain ⟨ad, rfl, x0⟩ := (HR.out.below HK.out.below).out at_ hlt
              rw [hq1] at x0
              have x1 : wr.cell? (ad.add at_) = some (.int .u8 ((q : Int) + 1)) := x0
              have HGO := Lib.hid hgo2
              have HT := Lib.hid ht
              have HTL := Lib.hid htl
              have hts : t.length = s.length - at_ - 1 := by omega
              clear hgo hend hgo2 hdrop ht hc0 hc1 hq1 x0
              by_cases a1 : t.length < q
              · have hU : unstuffOf s = ([], 30) := by rw [← HGO.out, if_pos a1]
                have HU := Lib.hid hU
                have a2 : (s.length : Int) - (at_ : Int) - 1 < (q : Int) := by omega
                clear hU hts htl
                go_wp2
                go_ret2
                rw [HU.out]
                exact ⟨_, rfl, OwnB.nil _ _ _, HK.out⟩
              · have a2 : (q : Int) ≤ (s.length : Int) - (at_ : Int) - 1 := by omega
                have hqs : at_ + q + 1 ≤ s.length := by omega
                clear hts htl
                go_wp2
                go_loopw [5, 10] (fun v i wz => ∃ m : Nat, m ≤ q ∧ i = .int .i64 (m : Int) ∧ OwnB 5 wz w.heap.size v (b ++ t.take m) ∧ Keeps w wz) (fun _ i _ => q - (intOf i).toNat)
                case atStart => exact ⟨0, Nat.zero_le _, rfl, by simpa using HO.out, HK.out⟩
                case round =>
                  obtain ⟨m, hm, rfl, ho2, hk2⟩ := hrel
                  have HO2 := Lib.hid ho2
                  have HK2 := Lib.hid hk2
                  clear ho2 hk2
                  by_cases hmq : m < q
                  · have hmt : m < t.length := by omega
                    have hmb : at_ + 1 + m < s.length := by have := HTL.out; omega
                    obtain ⟨ad2, e, hc⟩ := (HR.out.below HK2.out.below).out (at_ + 1 + m) hmb
                    cases e
                    have hlen2 : (b ++ t.take m).length ≤ 549755813888 := by rw [List.length_append, List.length_take]; omega
                    have hnx : t.take (m + 1) = t.take m ++ [s[at_ + 1 + m]'hmb] := by
                      rw [List.take_succ_eq_append_getElem hmt]
                      congr 2
                      have e : t[m]? = (s.drop (at_ + 1))[m]? := congrArg (fun x : List UInt8 => x[m]?) HT.out
                      rw [List.getElem?_drop, List.getElem?_eq_getElem hmt, List.getElem?_eq_getElem hmb] at e
                      injection e
                    have HNX := Lib.hid hnx
                    clear hnx
                    go_wp2_with (at_builtin; refine wpList_append_bytes (w0 := w) w.heap.size rfl _ _ 31 5 rfl Tryz.underlying31 info_u8 _ (b ++ t.take m) [s[at_ + 1 + m]'hmb] rfl (HO2.out.below ((Keeps.refl _).alloc _).below) _ 1 rfl (Reads.new_at _ [s[at_ + 1 + m]'hmb] 5 (0, 0) #[.int .u8 (((s[at_ + 1 + m]'hmb).toNat : Nat) : Int)] rfl _ (by simp)) (by simp only [List.length_cons, List.length_nil]; omega) (by have := HK2.out.size; simp; omega) (HK2.out.alloc _) ?_)
                    intro v2 w2 hown2 hb2 _ _
                    have HO3 := Lib.hid hown2
                    have HK3 := Lib.hid (show Keeps w w2 from hb2)
                    clear hown2 hb2
                    go_wp2
                    exact ⟨⟨m + 1, by omega, by go_num, by rw [HNX.out]; have := HO3.out; simpa [List.append_assoc] using this, HK3.out⟩, by simp [intOf]; omega⟩
                  · obtain rfl : m = q := by omega
                    clear hmq hm
                    by_cases hend2 : at_ + m + 1 < s.length
                    · have hnt : ¬ t.length ≤ m := by have := HTL.out; omega
                      by_cases h254 : m < 254
                      · have hlen2 : (b ++ t.take m).length ≤ 549755813888 := by rw [List.length_append, List.length_take]; omega
                        go_wp2_with (at_builtin; refine wpList_append_bytes (w0 := w) w.heap.size rfl _ _ 31 5 rfl Tryz.underlying31 info_u8 _ (b ++ t.take m) [0] rfl (HO2.out.below ((Keeps.refl _).alloc _).below) _ 1 rfl (Reads.new_at _ [0] 5 (0, 0) #[.int .u8 0] rfl _ (by simp)) (by simp only [List.length_cons, List.length_nil]; omega) (by have := HK2.out.size; simp; omega) (HK2.out.alloc _) ?_)
                        intro v2 w2 hown2 hb2 _ _
                        have HO3 := Lib.hid (show OwnB 5 w2 w.heap.size v2 (b ++ t.take m ++ [0]) by rw [List.append_assoc]; simpa using hown2)
                        have HK3 := Lib.hid (show Keeps w w2 from hb2)
                        clear hown2 hb2
                        go_wp2
                        exact ⟨u_less HTL.out HT.out hq254 a1 hbl hla HGO.out HK3.out hnt h254 HO3.out, by simp [intOf]; omega⟩
                      · go_wp2
                        exact ⟨u_full HTL.out HT.out hq254 a1 hbl hla HGO.out HK2.out hnt h254 HO2.out, by simp [intOf]; omega⟩
                    · have hnt : t.length ≤ m := by have := HTL.out; omega
                      by_cases h254 : m < 254
                      · go_wp2
                        exact ⟨u_end HTL.out HT.out hq254 a1 hbl hla HGO.out HK2.out hnt HO2.out, by simp [intOf]; omega⟩
                      · go_wp2
                        exact ⟨u_end HTL.out HT.out hq254 a1 hbl hla HGO.out HK2.out hnt HO2.out, by simp [intOf]; omega⟩
            · have HE := Lib.hid (hend hlt)
              clear hend hgo
              by_cases h1 : last = 1
              · by_cases h2 : ahead = 255
                · have HU := Lib.hid (show unstuffOf s = ([], 5) by rw [← HE.out]; unfold endOf; rw [if_pos ⟨h1, h2⟩])
                  have q1 : ((last : Int) == 1) = true := by rw [h1]; rfl
                  have q2 : ((ahead : Int) == 255) = true := by rw [h2]; rfl
                  clear h1 h2
                  go_wp2
                  go_ret2
                  rw [HU.out]
                  exact ⟨_, rfl, OwnB.nil _ _ _, HK.out⟩
                · have HU := Lib.hid (show unstuffOf s = (b, 0) by rw [← HE.out]; unfold endOf; rw [if_neg (fun h => h2 h.2)])
                  have q1 : ((last : Int) == 1) = true := by rw [h1]; rfl
                  have q2 : ((ahead : Int) == 255) = false := by rw [beq_eq_false_iff_ne]; omega
                  clear h1 h2
                  go_wp2
                  go_ret2
                  rw [HU.out]
                  exact ⟨_, rfl, HO.out, HK.out⟩
              · have HU := Lib.hid (show unstuffOf s = (b, 0) by rw [← HE.out]; unfold endOf; rw [if_neg (fun h => h1 h.1)])
                have q1 : ((last : Int) == 1) = false := by rw [beq_eq_false_iff_ne]; omega
                clear h1
                go_wp2
                go_ret2
                rw [HU.out]
                exact ⟨_, rfl, HO.out, HK.out⟩
end Go.Proofs.YtihodcnnappkbaaGreatDoor
namespace Go.Proofs.YtihodcnnappkbaaGreatDoor
open Go.RowKit
set_option linter.unusedVariables false
set_option linter.unusedSimpArgs false
theorem bit_parts (X : Nat) (hX : X < 4294967296) : ∃ d Y : Nat, bits BinOp.and IntKind.u32 (X : Int) 1 = ((X % 2 : Nat) : Int) ∧ (X : Int) % 2 = ((X % 2 : Nat) : Int) ∧ (X : Int) / 2 = (d : Int) ∧ bits BinOp.xor IntKind.u32 (d : Int) 3988292384 = (Y : Int) ∧
    Crc.bit X < 4294967296 ∧ (X % 2 = 1 → Crc.bit X = Y) ∧ (X % 2 ≠ 1 → Crc.bit X = d) := by
  refine ⟨X / 2, X / 2 ^^^ 3988292384, ?_, by omega, by omega, ?_, Crc.bit_lt hX, fun h => by simp [Crc.bit, h], fun h => by simp [Crc.bit, h]⟩
  · have := u32_and_nat X 1 hX (by omega)
    rw [show X % 2 = X &&& 1 from (Nat.and_two_pow_sub_one_eq_mod X 1).symm]
    exact this
  · exact xor_u32 _ 3988292384 (by omega) (by omega)
theorem nats_slow_step (s1 : Nat) (l : List UInt8) (k : Nat) (hlt : k < l.length) : Crc.slow s1 ((nats l).take (k + 1)) = Crc.bits 8 (Crc.slow s1 ((nats l).take k) ^^^ (l[k]'hlt).toNat) := by
  rw [nats_snoc l k hlt]
  simp only [Crc.slow, List.foldl_append, List.foldl_cons, List.foldl_nil]
  rfl
set_option maxHeartbeats 1000000 in
theorem refUpdate_calls (s : Nat) (hs : s < 4294967296) (A : Option Addr) (c : Nat) (l : List UInt8) (w : World) (hl : l.length ≤ 9223372036854775807) (hr : Reads w A l) :
    Calls Tryz.prog 127 #[.int .u32 (s : Int), .slice A l.length c] w fun e w' => e = .returned (.int .u32 ((Crc.upd s (nats l) : Nat) : Int)) ∧ w = w' := by
  have hfull := not_u32 s hs
  have hs' : 4294967295 ^^^ s < 4294967296 := Crc.xor_lt (by omega) hs
  have hu : Crc.upd s (nats l) = 4294967295 ^^^ Crc.slow (4294967295 ^^^ s) (nats l) := by
    unfold Crc.upd; rw [Crc.fast_slow]
  generalize 4294967295 ^^^ s = s1 at hfull hs' hu
  have HU := Lib.hid hu
  have HR := Lib.hid hr
  clear hr hu
  go_enter Tryz.func127, Tryz.ntmps127
  go_wp2
  go_loop [5, 6] (fun r i => ∃ k : Nat, k ≤ l.length ∧ i = .int .i64 k ∧ r = .int .u32 ((Crc.slow s1 ((nats l).take k) : Nat) : Int)) (fun _ i => l.length - (intOf i).toNat)
  case atStart => exact ⟨0, Nat.zero_le _, rfl, rfl⟩
  case round =>
    obtain ⟨k, hk, rfl, rfl⟩ := hrel
    clear hfull
    by_cases hlt : k < l.length
    · obtain ⟨ad, rfl, hc⟩ := HR.out.out k hlt
      have hn := nats_slow_step s1 l k hlt
      have hb : Crc.slow s1 ((nats l).take k) < 4294967296 := Crc.slow_lt _ hs' (nats_take_lt l k)
      have hcb : (l[k]'hlt).toNat < 4294967296 := by have := (l[k]'hlt).toNat_lt; omega
      generalize Crc.slow s1 ((nats l).take k) = R at hn hb ⊢
      generalize (l[k]'hlt).toNat = cb at hn hc hcb
      have e0 := mod_u32 cb hcb
      have e1 := xor_u32 R cb hb hcb
      have hX : R ^^^ cb < 4294967296 := Crc.xor_lt hb hcb
      generalize R ^^^ cb = X at e1 hX hn
      have HN := Lib.hid hn
      clear hn
      go_wp2
      go_loop [5, 7] (fun r i => ∃ j : Nat, j ≤ 8 ∧ i = .int .i64 j ∧ r = .int .u32 ((Crc.bits j X : Nat) : Int)) (fun _ i => 8 - (intOf i).toNat)
      case atStart => exact ⟨0, Nat.zero_le _, rfl, rfl⟩
      case round =>
        obtain ⟨j, hj, rfl, rfl⟩ := hrel
        clear e0 e1 hc
        by_cases hjl : j < 8
        · have hB : Crc.bits j X < 4294967296 := Crc.bits_lt j hX
          have hs : Crc.bits (j + 1) X = Crc.bit (Crc.bits j X) := by rw [Crc.bits_add]; rfl
          generalize Crc.bits j X = B at hB hs ⊢
          obtain ⟨d, Y, g1, g2, g3, g4, hbl, hy1, hy2⟩ := bit_parts B hB
          clear g1
          by_cases hm : B % 2 = 1
          · have hy := hy1 hm
            rw [hm] at g2
            rw [hy] at hs
            have HS := Lib.hid hs
            clear hm hy hy1 hy2 hs hbl
            go_wp2
            go_round
            case rel => exact ⟨j + 1, by omega, by go_num, by rw [HS.out]⟩
            case measure => simp [intOf]; omega
          · have hm0 : B % 2 = 0 := by omega
            have hy := hy2 hm
            rw [hm0] at g2
            rw [hy] at hs
            have HS := Lib.hid hs
            clear hm hm0 hy hy1 hy2 hs hbl
            go_wp2
            go_round
            case rel => exact ⟨j + 1, by omega, by go_num, by rw [HS.out]⟩
            case measure => simp [intOf]; omega
        · obtain rfl : j = 8 := by omega
          go_wp2
          go_round
          case rel => exact ⟨k + 1, by omega, by go_num, by rw [HN.out]⟩
          case measure => simp [intOf]; omega
    · go_wp2
      go_ret
      refine ⟨?_, rfl⟩
      have : k = l.length := by omega
      subst this
      rw [List.take_of_length_le (by rw [nats_length]; omega), not_u32 _ (Crc.slow_lt _ hs' (nats_lt l)), HU.out]
      exact ret_int rfl
set_option maxHeartbeats 400000 in
theorem refSum_calls (A : Option Addr) (c : Nat) (l : List UInt8) (w : World) (hl : l.length ≤ 9223372036854775807) (hr : Reads w A l) :
    Calls Tryz.prog 95 #[.slice A l.length c] w fun e w' => e = .returned (.int .u32 ((Crc.sum (nats l) : Nat) : Int)) ∧ w = w' := by
  have HR := Lib.hid hr
  clear hr
  go_enter Tryz.func95, Tryz.ntmps95
  go_wp2_with (go_at_call 127; refine (refUpdate_calls 0 (by omega) A c l _ hl HR.out).mono ?_; rintro e w' ⟨rfl, rfl⟩)
  go_ret
  exact ⟨rfl, rfl⟩
end Go.Proofs.YtihodcnnappkbaaGreatDoor
namespace Go.Proofs.YtihodcnnappkbaaGreatDoor
open Go.RowKit Go.BigFrame
set_option linter.unusedVariables false
set_option linter.unusedSimpArgs false
structure NewB (w : World) (l : List UInt8) (e : Ending) (w' : World) : Prop where
  ex : ∃ v, e = .returned v ∧ OwnB 5 w' w.heap.size v l ∧ Keeps w w'
theorem OwnB.seen {e : TypeId} {w : World} {base : Nat} {v : Value} {l : List UInt8} (h : OwnB e w base v l) : ∃ A M c, v = .slice A M c ∧ Hid (l.length = M) ∧ Hid (Reads w A l) := by
  obtain ⟨A, c, rfl, _, hr, _⟩ := h.form
  exact ⟨A, _, c, rfl, Lib.hid rfl, Lib.hid hr⟩
end Go.Proofs.YtihodcnnappkbaaGreatDoor
namespace Go.Proofs.YtihodcnnappkbaaGreatDoor
open Go.RowKit Go.BigFrame
set_option linter.unusedVariables false
set_option linter.unusedSimpArgs false
attribute [local go_sem] run_storeF
theorem takeS_eq (l : List UInt8) : takeS l = match someGo l [2147483648] 1 [] with
    | none => .error 5
    | some (vs, k) => match decodeS (l.drop k) with
      | .error e => .error e
      | .ok cols => .ok { frZero with kind := 1, number := ((vs.getD 0 0 : Nat) : Int), cols := cols } := by
  unfold takeS
  simp only
  rw [show someGo l [2147483648] 1 [] = someGo l [2147483648] ((1, false) : Nat × Bool).1 [] from rfl, some_next _ _ _ _ _ rfl]
  by_cases h1 : (rnum l 2147483648 (1, false)).2.2 = true
  · rw [if_pos h1, if_pos h1]
  · rw [if_neg h1, if_neg h1, someGo]
    have g1 := (rnum_toNat (show (rnum l 2147483648 (1, false)).2.2 = false by simpa using h1)).1
    simp only [List.nil_append, List.getD_cons_zero, g1]
    cases decodeS (l.drop (rnum l 2147483648 (1, false)).2.1) <;> rfl
def datEnd (l : List UInt8) (vs : List Nat) (k : Nat) : Except Int Fr :=
  if vs.getD 3 0 < 1 then .error 5 else .ok { frZero with kind := 2, number := ((vs.getD 0 0 : Nat) : Int), seq := ((vs.getD 1 0 : Nat) : Int), first := ((vs.getD 2 0 : Nat) : Int), rows := ((vs.getD 3 0 : Nat) : Int), block := l.drop k }
theorem takeD_eq (l : List UInt8) : takeD l = match someGo l [2147483648, seqMax, seqMax, 65] 1 [] with
    | none => .error 5
    | some (vs, k) => datEnd l vs k := by
  unfold takeD
  simp only
  rw [show someGo l [2147483648, seqMax, seqMax, 65] 1 [] = someGo l [2147483648, seqMax, seqMax, 65] ((1, false) : Nat × Bool).1 [] from rfl, some_next _ _ _ _ _ rfl]
  by_cases h1 : (rnum l 2147483648 (1, false)).2.2 = true
  · rw [if_pos h1]
    simp [rnum_bad (m := 65) (rnum_bad (m := seqMax) (rnum_bad (m := seqMax) h1))]
  rw [if_neg h1, some_next _ _ _ _ _ (by simpa using h1)]
  by_cases h2 : (rnum l seqMax (rnum l 2147483648 (1, false)).2).2.2 = true
  · rw [if_pos h2]
    simp [rnum_bad (m := 65) (rnum_bad (m := seqMax) h2)]
  rw [if_neg h2, some_next _ _ _ _ _ (by simpa using h2)]
  by_cases h3 : (rnum l seqMax (rnum l seqMax (rnum l 2147483648 (1, false)).2).2).2.2 = true
  · rw [if_pos h3]
    simp [rnum_bad (m := 65) h3]
  rw [if_neg h3, some_next _ _ _ _ _ (by simpa using h3)]
  by_cases h4 : (rnum l 65 (rnum l seqMax (rnum l seqMax (rnum l 2147483648 (1, false)).2).2).2).2.2 = true
  · rw [if_pos h4]
    simp [h4]
  rw [if_neg h4, someGo]
  have g1 := (rnum_toNat (show (rnum l 2147483648 (1, false)).2.2 = false by simpa using h1)).1
  have g2 := (rnum_toNat (show (rnum l seqMax (rnum l 2147483648 (1, false)).2).2.2 = false by simpa using h2)).1
  have g3 := (rnum_toNat (show (rnum l seqMax (rnum l seqMax (rnum l 2147483648 (1, false)).2).2).2.2 = false by simpa using h3)).1
  have g4 := (rnum_toNat (show (rnum l 65 (rnum l seqMax (rnum l seqMax (rnum l 2147483648 (1, false)).2).2).2).2.2 = false by simpa using h4)).1
  unfold datEnd
  simp only [List.nil_append, List.cons_append, List.getD_cons_zero, List.getD_cons_succ, g1, g2, g3, g4]
  have e4 : (rnum l 65 (rnum l seqMax (rnum l seqMax (rnum l 2147483648 (1, false)).2).2).2).2.2 = false := by simpa using h4
  rw [e4, Bool.false_or]
  by_cases h5 : (rnum l 65 (rnum l seqMax (rnum l seqMax (rnum l 2147483648 (1, false)).2).2).2).1 < 1
  · rw [if_pos (by simpa using h5), if_pos (by omega)]
  · rw [if_neg (by simpa using h5), if_neg (by omega)]
theorem le4_nth (S i : Nat) (h : i < 4) : (le4 S)[i]? = some (UInt8.ofNat (S / 256 ^ i % 256)) := by
  obtain rfl | rfl | rfl | rfl : i = 0 ∨ i = 1 ∨ i = 2 ∨ i = 3 := by omega
  all_goals simp [le4]
theorem row1 {w : World} {A : Option Addr} {p : Nat} (h : RowAt w A (n64s [p])) : ∃ ad, A = some ad ∧ w.cell? ad = some (.int .i64 (p : Int)) := by
  obtain ⟨ad, rfl, c0⟩ := row_n64 h 0 (by simp)
  exact ⟨ad, rfl, by simpa [addr_add_zero] using c0⟩
set_option maxRecDepth 40000 in
set_option maxHeartbeats 8000000 in
theorem refDecode_calls (A : Option Addr) (c : Nat) (run : List UInt8) (w : World) (hr : Reads w A run) (hl : run.length ≤ 140737488355328) :
    Calls Tryz.prog 66 #[.slice A run.length c] w (TakePost w (decF run)) := by
  by_cases h2200 : 2200 < run.length
  · unfold decF
    rw [if_pos h2200]
    clear hr
    generalize run.length = L at h2200 hl ⊢
    go_enter Tryz.func66, Tryz.ntmps66
    go_wp2
    exact bodyPost_ret (v := .tuple #[.agg zero11, .int .i64 2]) (by simp [results, Tryz.results66, go_sem, *]) rfl ⟨rfl, (Keeps.refl w).alloc _⟩
  obtain ⟨W, hW⟩ : ∃ W, W = w.alloc (.cells zero11 36) := ⟨_, rfl⟩
  have hW0 : ResAt w W := ⟨by rw [hW]; exact obj_new w _, by rw [hW]; exact (Keeps.refl w).alloc _⟩
  have hun := refUnstuff_calls A c run W (by omega) (hr.below hW0.keeps.below)
  have hul : (unstuffOf run).2 = 0 → (unstuffOf run).1.length ≤ run.length := fun h0 => by
    have := stuff_unstuff run (unstuffOf run).1 (by rw [← h0])
    have h2 := (stuff_length (unstuffOf run).1).1
    rw [this] at h2
    omega
  obtain ⟨R, hR⟩ : ∃ R, R = decF run := ⟨_, rfl⟩
  rw [← hR]
  unfold decF at hR
  rw [if_neg h2200] at hR
  generalize unstuffOf run = u at hR hun hul
  obtain ⟨body, er⟩ := u
  simp only at hR hul
  have HUN := Lib.hid hun
  have HW := Lib.hid hW0
  have HUL := Lib.hid hul
  clear hun hW0 hr hul
  generalize run.length = L at hl h2200 HUN HUL ⊢
  by_cases her : er ≠ 0
  case pos =>
    rw [if_pos her] at hR
    have HE := Lib.hid hR
    have q0 : (er != 0) = true := by simpa using her
    clear hR
    go_enter Tryz.func66, Tryz.ntmps66
    go_wp2_with fail
    rw [← hW]
    clear hW
    refine HUN.out.mono ?_
    rintro e w1 ⟨v1, rfl, hown1, hk1⟩
    obtain ⟨B, cb, rfl, _⟩ := hown1.form
    have H1 := Lib.hid (HW.out.later hk1)
    generalize body.length = M
    clear hk1 hown1 HUN HW HUL
    obtain ⟨⟨d0, d1, d2, d3, d4, d5, d6, d7, d8, d9, d10⟩, y0, y1, y2, y3, y4, y5, y6, y7, y8, y9, y10⟩ := cells11 H1.out.res
    have u1 := obj_lt H1.out.res
    go_wp2
    refine bodyPost_ret (v := .tuple #[.agg zero11, .int .i64 er]) (by simp [results, Tryz.results66, go_sem, u1, d0, d1, d2, d3, d4, d5, d6, d7, d8, d9, d10]) rfl ?_
    rw [HE.out]
    exact ⟨rfl, res_keeps H1.out.keeps ((set11 _ _ _ _ _ _ _ _ _ _ _))⟩
  case neg =>
  rw [if_neg her] at hR
  have her : er = 0 := by omega
  subst her
  have hul := HUL.out rfl
  clear HUL
  by_cases hshort : body.length < 5
  case pos =>
    rw [if_pos hshort] at hR
    have HE := Lib.hid hR
    clear hR
    go_enter Tryz.func66, Tryz.ntmps66
    go_wp2_with fail
    rw [← hW]
    clear hW
    refine HUN.out.mono ?_
    rintro e w1 ⟨v1, rfl, hown1, hk1⟩
    obtain ⟨B, cb, rfl, _⟩ := hown1.form
    have H1 := Lib.hid (HW.out.later hk1)
    have hshort : body.length < 5 := hshort
    clear hk1 hown1 HUN HW
    generalize body.length = M at hshort hul ⊢
    obtain ⟨⟨d0, d1, d2, d3, d4, d5, d6, d7, d8, d9, d10⟩, y0, y1, y2, y3, y4, y5, y6, y7, y8, y9, y10⟩ := cells11 H1.out.res
    have u1 := obj_lt H1.out.res
    go_wp2
    refine bodyPost_ret (v := .tuple #[.agg zero11, .int .i64 30]) (by simp [results, Tryz.results66, go_sem, u1, d0, d1, d2, d3, d4, d5, d6, d7, d8, d9, d10]) rfl ?_
    rw [HE.out]
    exact ⟨rfl, res_keeps H1.out.keeps ((set11 _ _ _ _ _ _ _ _ _ _ _))⟩
  case neg =>
  rw [if_neg hshort] at hR
  obtain ⟨n, hn⟩ : ∃ n, n = body.length - 4 := ⟨_, rfl⟩
  rw [← hn] at hR
  have hM : body.length = n + 4 := by omega
  have hn1 : 1 ≤ n := by omega
  obtain ⟨tl, htl⟩ : ∃ tl, tl = body.drop n := ⟨_, rfl⟩
  have htl4 : tl.length = 4 := by rw [htl, List.length_drop]; omega
  rw [← htl] at hR
  obtain ⟨S, hS⟩ : ∃ S, S = Crc.sum (nats (body.take n)) := ⟨_, rfl⟩
  have hSlt : S < 4294967296 := by rw [hS]; exact Crc.upd_lt _ (by omega) (nats_lt _)
  rw [← hS] at hR
  obtain ⟨b, hb⟩ : ∃ b, b = body.take n := ⟨_, rfl⟩
  rw [← hb] at hR hS
  have hbl : b.length = n := by rw [hb, List.length_take]; omega
  have htail : ∀ j (hj : n + j < body.length), tl[j]? = some (body[n + j]'hj) := fun j hj => by
    rw [htl, List.getElem?_drop, List.getElem?_eq_getElem hj]
  have HR := Lib.hid hR
  have HS := Lib.hid hS
  have HM := Lib.hid hM
  have HTL := Lib.hid htail
  have HT4 := Lib.hid htl4
  have HBL := Lib.hid hbl
  have HBB := Lib.hid hb
  clear hR hS hshort htail htl4 hbl hb htl hn
  go_enter Tryz.func66, Tryz.ntmps66
  go_wp2_with fail
  rw [← hW]
  clear hW
  refine HUN.out.mono ?_
  rintro e w1 ⟨v1, rfl, hown1, hk1⟩
  obtain ⟨B, cb, rfl, hlc1, hr1, hc1, _⟩ := hown1.form
  have hr1 : Reads w1 B body := hr1
  have hlc1 : body.length ≤ cb := hlc1
  have H1 := Lib.hid (HW.out.later hk1)
  have hrb : Reads w1 B b := by rw [HBB.out]; exact hr1.take n
  have hsum := refSum_calls B cb b w1 (by rw [HBL.out]; omega) hrb
  rw [← HS.out, HBL.out] at hsum
  have HSUM := Lib.hid hsum
  have HR1 := Lib.hid hr1
  have HRB := Lib.hid hrb
  clear hk1 hown1 HUN HW hr1 hsum hrb
  have hML : body.length = n + 4 := hM
  clear hM
  generalize hMM : body.length = M at hul hML hlc1 ⊢
  have HMM := Lib.hid hMM
  clear hMM
  have hw4 : IntKind.i64.wrap ((M : Int) - 4) = (n : Int) := by rw [IntWalk.i64_in _ (by omega)]; omega
  have hM5 : ¬ (M : Int) < 5 := by omega
  have hncb : n ≤ cb := by omega
  have HML := Lib.hid hML
  clear hML
  go_wp2_with fail
  refine HSUM.out.mono ?_
  rintro e w2 ⟨rfl, rfl⟩
  clear HSUM hw4 hM5
  go_wp2_with fail
  go_loopw [7, 8] (fun x i wr => ∃ k : Nat, k ≤ 4 ∧ i = .int .i64 (k : Int) ∧ x = .int .u32 ((S / 256 ^ k : Nat) : Int) ∧ (∀ j, j < k → tl[j]? = (le4 S)[j]?) ∧ wr = w1) (fun _ i _ => 4 - (intOf i).toNat)
  case atStart => exact ⟨0, by omega, rfl, by simp, fun j h => by omega, rfl⟩
  case round =>
  obtain ⟨k, hk, rfl, rfl, hsame, rfl⟩ := hrel
  have HSAME := Lib.hid hsame
  clear hsame
  obtain ⟨⟨d0, d1, d2, d3, d4, d5, d6, d7, d8, d9, d10⟩, y0, y1, y2, y3, y4, y5, y6, y7, y8, y9, y10⟩ := cells11 H1.out.res
  have u1 := obj_lt H1.out.res
  by_cases hlt4 : k < 4
  case pos =>
    have hml := HML.out
    obtain ⟨m, hm⟩ : ∃ m, m = n + k := ⟨_, rfl⟩
    have hmM : m < M := by omega
    have hmw : IntKind.i64.wrap ((n : Int) + (k : Int)) = (m : Int) := by rw [IntWalk.i64_in _ (by omega)]; omega
    have hnk : n + k < body.length := by rw [HMM.out]; omega
    obtain ⟨ad, rfl, hcell⟩ := HR1.out.out (n + k) hnk
    have htk := HTL.out k hnk
    have hnth := le4_nth S k hlt4
    obtain ⟨y, hy⟩ : ∃ y, y = body[n + k]'hnk := ⟨_, rfl⟩
    rw [← hy] at hcell htk
    rw [← hm] at hcell
    have hX : S / 256 ^ k < 4294967296 := Nat.lt_of_le_of_lt (Nat.div_le_self _ _) hSlt
    have hdiv : S / 256 ^ (k + 1) = S / 256 ^ k / 256 := by rw [Nat.pow_succ, Nat.div_div_eq_div_mul]
    have HD := Lib.hid hdiv
    have HNTH := Lib.hid hnth
    have HTK := Lib.hid htk
    clear hdiv hnth htk hy hnk hml hm
    generalize S / 256 ^ k = X at *
    have hw8 : IntKind.u8.wrap ((X : Int) % 256) = (X : Int) % 256 := by simp [IntKind.wrap, IntKind.bits, IntKind.signed]
    by_cases hyx : y = UInt8.ofNat (X % 256)
    case pos =>
      have qy : (((y.toNat : Nat) : Int) != (X : Int) % 256) = false := by rw [hyx, byte_of]; simp
      have HS2 : Hid (∀ j, j < k + 1 → tl[j]? = (le4 S)[j]?) := Lib.hid fun j hj => by
        by_cases e : j = k
        · rw [e, HTK.out, HNTH.out, hyx]
        · exact HSAME.out j (by omega)
      clear hyx
      go_wp2
      exact ⟨⟨k + 1, by omega, by go_num, by rw [HD.out]; go_num, HS2.out, trivial⟩, by simp [intOf]; omega⟩
    case neg =>
      have qy : (((y.toNat : Nat) : Int) != (X : Int) % 256) = true := by
        rw [bne_iff_ne, ← byte_of]
        intro e
        exact hyx (UInt8.toNat_inj.1 (by omega))
      have HE : Hid (R = .error 120) := Lib.hid (by
        rw [HR.out, if_pos]
        intro e
        have h4 : le4 S = tl := by rw [e]; exact le4_le _ HT4.out
        have h5 := HNTH.out
        rw [h4, HTK.out] at h5
        injection h5 with h5
        exact hyx h5)
      clear hyx HR
      go_wp2
      refine bodyPost_ret (v := .tuple #[.agg zero11, .int .i64 120]) (by simp [results, Tryz.results66, go_sem, u1, d0, d1, d2, d3, d4, d5, d6, d7, d8, d9, d10]) rfl ?_
      rw [HE.out]
      exact ⟨rfl, res_keeps H1.out.keeps ((set11 _ _ _ _ _ _ _ _ _ _ _))⟩
  case neg =>
  obtain rfl : k = 4 := by omega
  have hST : S = le tl := by
    have h4 : le4 S = tl := by
      apply List.ext_getElem?
      intro j
      by_cases hj : j < 4
      · exact (HSAME.out j hj).symm
      · rw [List.getElem?_eq_none (by show 4 ≤ j; omega), List.getElem?_eq_none (by rw [HT4.out]; omega)]
    rw [← h4, le_le4 _ hSlt]
  have HR2 : Hid (R = takeF b) := Lib.hid (by rw [HR.out, if_neg (by rw [← hST]; simp)])
  obtain ⟨x0, lb, hxb⟩ : ∃ x0 lb, b = x0 :: lb := by
    cases hq : b with
    | nil => have := HBL.out; rw [hq] at this; simp at this; omega
    | cons x0 lb => exact ⟨x0, lb, rfl⟩
  obtain ⟨ad, rfl, hcell⟩ := HRB.out.out 0 (by rw [HBL.out]; omega)
  have hx0 : b[0]'(by rw [HBL.out]; omega) = x0 := by simp [hxb]
  rw [hx0, addr_add_zero] at hcell
  have hx256 : x0.toNat < 256 := x0.toNat_lt
  have hxw : IntKind.i64.wrap ((x0.toNat : Nat) : Int) = ((x0.toNat : Nat) : Int) := IntWalk.i64_in _ (by omega)
  have hn0 : 0 < n := by omega
  have hnS : n ≤ 2200 := by have := HML.out; omega
  have HR3 : Hid (R = if x0 = 1 then takeS b else if x0 = 2 then takeD b else if x0 = 3 then takeI b else .error 60) := Lib.hid (by rw [HR2.out, hxb, takeF])
  clear hST HR HR2 hxb hx0 HSAME hlt4
  by_cases hk1 : x0 = 1
  case pos =>
    have hX : x0.toNat = 1 := by rw [hk1]; rfl
    have HR4 : Hid (R = takeS b) := Lib.hid (by rw [HR3.out, if_pos hk1])
    clear hk1 HR3
    generalize x0.toNat = X at *
    subst hX
    obtain ⟨W3, hW3⟩ : ∃ W3, W3 = wr.alloc (.cells #[.int .i64 2147483648] 2) := ⟨_, rfl⟩
    have hk3 : Keeps wr W3 := by rw [hW3]; exact (Keeps.refl wr).alloc _
    have hb3 : W3.heap[wr.heap.size]? = some (.cells #[.int .i64 ((2147483648 : Nat) : Int)] 2) := by rw [hW3]; exact obj_new wr _
    have hs := refSome_calls (some ad) cb b 1 (some ⟨wr.heap.size, 0, none⟩) 1 [2147483648] W3 (by rw [HBL.out]; omega) (HRB.out.below hk3.below) (by rw [HBL.out]; exact hn1) (by simp) (fun m hm => by simp only [List.mem_cons, List.not_mem_nil, or_false] at hm; omega) (n64_one hb3)
    rw [HBL.out] at hs
    have HSO := Lib.hid hs
    have HK3 := Lib.hid hk3
    have HW3 := Lib.hid hW3
    clear hs hk3 hb3 hW3
    go_wp2_with fail
    rw [← HW3.out]
    refine HSO.out.mono ?_
    rintro e w4 hpost
    clear HSO hcell d0 d1 d2 d3 d4 d5 d6 d7 d8 d9 d10 y0 y1 y2 y3 y4 y5 y6 y7 y8 y9 y10 u1
    cases hgo : someGo b [2147483648] 1 [] with
    | none =>
      rw [hgo] at hpost
      obtain ⟨rfl, hk4⟩ : _ ∧ _ := hpost
      have HE : Hid (R = .error 5) := Lib.hid (by rw [HR4.out, takeS_eq, hgo])
      have H4 := Lib.hid (H1.out.later (HK3.out.trans hk4))
      clear hk4 hgo HR4
      obtain ⟨⟨d0, d1, d2, d3, d4, d5, d6, d7, d8, d9, d10⟩, y0, y1, y2, y3, y4, y5, y6, y7, y8, y9, y10⟩ := cells11 H4.out.res
      have u1 := obj_lt H4.out.res
      go_wp2
      refine bodyPost_ret (v := .tuple #[.agg zero11, .int .i64 5]) (by simp [results, Tryz.results66, go_sem, u1, d0, d1, d2, d3, d4, d5, d6, d7, d8, d9, d10]) rfl ?_
      rw [HE.out]
      exact ⟨rfl, res_keeps H4.out.keeps ((set11 _ _ _ _ _ _ _ _ _ _ _))⟩
    | some x =>
      obtain ⟨vs, k⟩ := x
      rw [hgo] at hpost
      obtain ⟨A4, c4, rfl, hrow, hlc4, hk4⟩ : ∃ A4 c4, _ ∧ _ ∧ _ ∧ _ := hpost
      obtain ⟨ns, hv, hlt, hkL⟩ := someGo_ok _ _ _ _ _ (by rw [HBL.out]; exact hn1) hgo
      rw [HBL.out] at hkL
      obtain ⟨p, rfl, hp⟩ := allLt1 hlt
      rw [List.nil_append] at hv
      subst hv
      have HR5 : Hid (R = match decodeS (b.drop k) with
        | .error e => .error e
        | .ok cols => .ok { frZero with kind := 1, number := (p : Int), cols := cols }) := Lib.hid (by rw [HR4.out, takeS_eq, hgo]; simp only [List.getD_cons_zero]; try rfl)
      obtain ⟨ad4, rfl, e0⟩ := row1 hrow
      have v4 := World.block_lt_of_cell? w4 _ e0
      have hk14 := HK3.out.trans hk4
      obtain ⟨Z, hif⟩ : ∃ Z, (if cb = k then some ad else some (ad.add k)) = Z := ⟨_, rfl⟩
      have hz : Reads w4 Z (b.drop k) := by
        refine (HRB.out.below hk14.below).drop_any k Z fun hlt ad' e => ?_
        rw [← hif, if_neg (by rw [HBL.out] at hlt; omega)]
        cases e
        rfl
      have hbd : (b.drop k).length = n - k := by rw [List.length_drop, HBL.out]
      have hsd := refSchDecode_calls Z (cb - k) (b.drop k) w4 (by rw [hbd]; omega) (by rw [hbd]; omega) hz
      rw [hbd] at hsd
      change 1 ≤ c4 at hlc4
      have HSD := Lib.hid hsd
      have H4 := Lib.hid (H1.out.later hk14)
      have HE0 := Lib.hid e0
      clear hz hbd hsd hk14 hk4 hgo HR4 hrow hlt e0
      go_wp2_with fail
      clear hif
      refine HSD.out.mono ?_
      intro e w5 hpost
      clear HSD
      cases hde : decodeS (b.drop k) with
      | error er =>
        rw [hde] at hpost
        obtain ⟨rfl, hk5⟩ : _ ∧ _ := hpost
        have HE : Hid (R = .error er) := Lib.hid (by rw [HR5.out, hde])
        have qe : (er != 0) = true := by simpa using decodeS_nz hde
        have H5 := Lib.hid (H4.out.later hk5)
        clear hk5 hde HR5
        obtain ⟨⟨d0, d1, d2, d3, d4, d5, d6, d7, d8, d9, d10⟩, y0, y1, y2, y3, y4, y5, y6, y7, y8, y9, y10⟩ := cells11 H5.out.res
        have u1 := obj_lt H5.out.res
        go_wp2
        refine bodyPost_ret (v := .tuple #[.agg zero11, .int .i64 er]) (by simp [results, Tryz.results66, go_sem, u1, d0, d1, d2, d3, d4, d5, d6, d7, d8, d9, d10]) rfl ?_
        rw [HE.out]
        exact ⟨rfl, res_keeps H5.out.keeps ((set11 _ _ _ _ _ _ _ _ _ _ _).alloc _)⟩
      | ok cols =>
        rw [hde] at hpost
        obtain ⟨A5, c5, rfl, hsc, hk5⟩ : ∃ A5 c5, _ ∧ _ ∧ _ := hpost
        have HE : Hid (R = .ok { frZero with kind := 1, number := (p : Int), cols := cols }) := Lib.hid (by rw [HR5.out, hde])
        have e0 := Keeps.cellIs hk5 HE0.out
        have v5 := World.block_lt_of_cell? w5 _ e0
        have H5 := Lib.hid (H4.out.later hk5)
        have HSC := Lib.hid (hsc.mono (S' := fun b => w.heap.size + 1 ≤ b) fun b _ hb => by have h1 := obj_lt H4.out.res; have hb' : w4.heap.size ≤ b := hb; omega)
        obtain ⟨NC, hNC⟩ : ∃ NC, NC = cols.length := ⟨_, rfl⟩
        rw [← hNC]
        have HNC := Lib.hid hNC
        clear hk5 hde HR5 hsc hNC
        obtain ⟨⟨d0, d1, d2, d3, d4, d5, d6, d7, d8, d9, d10⟩, y0, y1, y2, y3, y4, y5, y6, y7, y8, y9, y10⟩ := cells11 H5.out.res
        have u1 := obj_lt H5.out.res
        go_wp2_with fail
        go_region
        all_goals
          go_wp2
          refine bodyPost_ret (v := .tuple #[.agg #[.int .i64 1, .int .i64 (p : Int), .slice A5 NC c5, .int .i64 0, .int .i64 0, .int .i64 0, .slice none 0 0, .int .i64 0, .int .i64 0, .int .i64 0, .slice none 0 0], .int .i64 0]) (by simp [results, Tryz.results66, go_sem, u1, d0, d1, d2, d3, d4, d5, d6, d7, d8, d9, d10]) rfl ?_
          have hT := fun v0 v1 v2 v3 v4 v5 v6 v7 v8 v9 v10 c => ((set11 (w1 := w5) (g := w.heap.size) v0 v1 v2 v3 v4 v5 v6 v7 v8 v9 v10).alloc c).drew
          rw [HE.out]
          refine ⟨A5, c5, none, 0, none, 0, by rw [HNC.out]; rfl, ⟨?_, OwnL.empty _ _ _ _, Loose.empty _ _ _ _ _⟩, res_keeps H5.out.keeps (hT _ _ _ _ _ _ _ _ _ _ _ _)⟩
          refine (HSC.out.touch (hT _ _ _ _ _ _ _ _ _ _ _ _) (fun b hb e => by rw [At] at e; have hb' : w.heap.size + 1 ≤ b := hb; omega)).mono fun b _ hb => ?_
          have hb' : w.heap.size + 1 ≤ b := hb
          show w.heap.size ≤ b
          omega
  case neg =>
  by_cases hk2 : x0 = 2
  case pos =>
    have hX : x0.toNat = 2 := by rw [hk2]; rfl
    have HR4 : Hid (R = takeD b) := Lib.hid (by rw [HR3.out, if_neg hk1, if_pos hk2])
    clear hk1 hk2 HR3
    generalize x0.toNat = X at *
    subst hX
    obtain ⟨W3, hW3⟩ : ∃ W3, W3 = wr.alloc (.cells #[.int .i64 2147483648, .int .i64 1099511627776, .int .i64 1099511627776, .int .i64 65] 2) := ⟨_, rfl⟩
    have hk3 : Keeps wr W3 := by rw [hW3]; exact (Keeps.refl wr).alloc _
    have hb3 : W3.heap[wr.heap.size]? = some (.cells #[.int .i64 ((2147483648 : Nat) : Int), .int .i64 ((seqMax : Nat) : Int), .int .i64 ((seqMax : Nat) : Int), .int .i64 ((65 : Nat) : Int)] 2) := by rw [hW3]; exact obj_new wr _
    have hs := refSome_calls (some ad) cb b 1 (some ⟨wr.heap.size, 0, none⟩) 4 [2147483648, seqMax, seqMax, 65] W3 (by rw [HBL.out]; omega) (HRB.out.below hk3.below) (by rw [HBL.out]; exact hn1) (by simp) (fun m hm => by simp only [List.mem_cons, List.not_mem_nil, or_false, seqMax] at hm; omega) (n64_four hb3)
    rw [HBL.out] at hs
    have HSO := Lib.hid hs
    have HK3 := Lib.hid hk3
    have HW3 := Lib.hid hW3
    clear hs hk3 hb3 hW3
    go_wp2_with fail
    rw [← HW3.out]
    refine HSO.out.mono ?_
    rintro e w4 hpost
    clear HSO hcell d0 d1 d2 d3 d4 d5 d6 d7 d8 d9 d10 y0 y1 y2 y3 y4 y5 y6 y7 y8 y9 y10 u1
    cases hgo : someGo b [2147483648, seqMax, seqMax, 65] 1 [] with
    | none =>
      rw [hgo] at hpost
      obtain ⟨rfl, hk4⟩ : _ ∧ _ := hpost
      have HE : Hid (R = .error 5) := Lib.hid (by rw [HR4.out, takeD_eq, hgo])
      have H4 := Lib.hid (H1.out.later (HK3.out.trans hk4))
      clear hk4 hgo HR4
      obtain ⟨⟨d0, d1, d2, d3, d4, d5, d6, d7, d8, d9, d10⟩, y0, y1, y2, y3, y4, y5, y6, y7, y8, y9, y10⟩ := cells11 H4.out.res
      have u1 := obj_lt H4.out.res
      go_wp2
      refine bodyPost_ret (v := .tuple #[.agg zero11, .int .i64 5]) (by simp [results, Tryz.results66, go_sem, u1, d0, d1, d2, d3, d4, d5, d6, d7, d8, d9, d10]) rfl ?_
      rw [HE.out]
      exact ⟨rfl, res_keeps H4.out.keeps ((set11 _ _ _ _ _ _ _ _ _ _ _))⟩
    | some x =>
      obtain ⟨vs, k⟩ := x
      rw [hgo] at hpost
      obtain ⟨A4, c4, rfl, hrow, hlc4, hk4⟩ : ∃ A4 c4, _ ∧ _ ∧ _ ∧ _ := hpost
      obtain ⟨ns, hv, hlt, hkL⟩ := someGo_ok _ _ _ _ _ (by rw [HBL.out]; exact hn1) hgo
      rw [HBL.out] at hkL
      obtain ⟨p, q, r, m, rfl, hp, hq, hr, hm65⟩ := allLt4 hlt
      rw [List.nil_append] at hv
      subst hv
      have HR5 : Hid (R = if m < 1 then .error 5 else .ok { frZero with kind := 2, number := (p : Int), seq := (q : Int), first := (r : Int), rows := (m : Int), block := b.drop k }) := Lib.hid (by rw [HR4.out, takeD_eq, hgo]; rfl)
      obtain ⟨ad4, rfl, e0, e1, e2, e3⟩ := row4 hrow
      have v4 := World.block_lt_of_cell? w4 _ e0
      have hk14 := HK3.out.trans hk4
      change 4 ≤ c4 at hlc4
      have H4 := Lib.hid (H1.out.later hk14)
      have HE0 := Lib.hid e0
      have HE1 := Lib.hid e1
      have HE2 := Lib.hid e2
      have HE3 := Lib.hid e3
      have HK14 := Lib.hid hk14
      clear hk14 hk4 hgo HR4 hrow hlt hp hq hr e0 e1 e2
      by_cases hm1 : m < 1
      case pos =>
        have HE : Hid (R = .error 5) := Lib.hid (by rw [HR5.out, if_pos hm1])
        have qm : (m : Int) < 1 := by omega
        clear HR5
        obtain ⟨⟨d0, d1, d2, d3, d4, d5, d6, d7, d8, d9, d10⟩, y0, y1, y2, y3, y4, y5, y6, y7, y8, y9, y10⟩ := cells11 H4.out.res
        have u1 := obj_lt H4.out.res
        go_wp2
        refine bodyPost_ret (v := .tuple #[.agg zero11, .int .i64 5]) (by simp [results, Tryz.results66, go_sem, u1, d0, d1, d2, d3, d4, d5, d6, d7, d8, d9, d10]) rfl ?_
        rw [HE.out]
        exact ⟨rfl, res_keeps H4.out.keeps ((set11 _ _ _ _ _ _ _ _ _ _ _))⟩
      case neg =>
      have HE : Hid (R = .ok { frZero with kind := 2, number := (p : Int), seq := (q : Int), first := (r : Int), rows := (m : Int), block := b.drop k }) := Lib.hid (by rw [HR5.out, if_neg hm1])
      have qm : ¬ (m : Int) < 1 := by omega
      obtain ⟨Z, hif⟩ : ∃ Z, (if cb = k then some ad else some (ad.add k)) = Z := ⟨_, rfl⟩
      obtain ⟨bl, hbl⟩ : ∃ bl, bl = b.drop k := ⟨_, rfl⟩
      have hz : Reads w4 Z bl := by
        rw [hbl]
        refine (HRB.out.below HK14.out.below).drop_any k Z fun hlt ad' e => ?_
        rw [← hif, if_neg (by rw [HBL.out] at hlt; omega)]
        cases e
        rfl
      have hbd : bl.length = n - k := by rw [hbl, List.length_drop, HBL.out]
      have HBD := Lib.hid hbd
      have HZ := Lib.hid hz
      have HBLK := Lib.hid hbl
      clear hz hbd hbl HR5 hm1
      go_wp2_with (at_builtin; (try rw [hif]); refine wpList_append_bytes (w0 := w4) w4.heap.size rfl _ _ 31 5 rfl Tryz.underlying31 info_u8b (.slice none 0 0) [] bl rfl (OwnB.nil _ _ _) Z (cb - k) (by rw [HBD.out]; rfl) HZ.out ?d2 (Nat.le_refl _) (Keeps.refl _) ?_)
      case d2 => have := HBD.out; simp; omega
      intro v5 w5 hown5 hb5 hg5 _
      have hown5 : OwnB 5 w5 w4.heap.size v5 bl := hown5
      obtain ⟨A5, M5, c5, rfl, HM5, _⟩ := hown5.seen
      have hk5 : Keeps w4 w5 := hb5
      have e0 := Keeps.cellIs hk5 HE0.out
      have e1 := Keeps.cellIs hk5 HE1.out
      have e2 := Keeps.cellIs hk5 HE2.out
      have e3' := Keeps.cellIs hk5 HE3.out
      have v5 := World.block_lt_of_cell? w5 _ e0
      have H5 := Lib.hid (H4.out.later hk5)
      have HO5 := Lib.hid hown5
      have HU5 := Lib.hid (obj_lt H4.out.res)
      clear hk5 hb5 hown5 hg5 hif e3
      obtain ⟨⟨d0, d1, d2, d3, d4, d5, d6, d7, d8, d9, d10⟩, y0, y1, y2, y3, y4, y5, y6, y7, y8, y9, y10⟩ := cells11 H5.out.res
      have u1 := obj_lt H5.out.res
      go_wp2_with fail
      go_region
      all_goals
        go_wp2
        refine bodyPost_ret (v := .tuple #[.agg #[.int .i64 2, .int .i64 (p : Int), .slice none 0 0, .int .i64 (q : Int), .int .i64 (r : Int), .int .i64 (m : Int), .slice A5 M5 c5, .int .i64 0, .int .i64 0, .int .i64 0, .slice none 0 0], .int .i64 0]) (by simp [results, Tryz.results66, go_sem, u1, d0, d1, d2, d3, d4, d5, d6, d7, d8, d9, d10]) rfl ?_
        have hT := fun v0 v1 v2 v3 v4 v5 v6 v7 v8 v9 v10 => (set11 (w1 := w5) (g := w.heap.size) v0 v1 v2 v3 v4 v5 v6 v7 v8 v9 v10).drew
        rw [HE.out]
        refine ⟨none, 0, A5, c5, none, 0, by rw [← HBLK.out, ← HM5.out]; rfl, ⟨SchS.nil _ _ _, ?_, Loose.empty _ _ _ _ _⟩, res_keeps H5.out.keeps (hT _ _ _ _ _ _ _ _ _ _ _)⟩
        show OwnL _ _ _ (.slice A5 (b.drop k).length c5) (b.drop k)
        rw [← HBLK.out, HM5.out]
        have ho := OwnL.of HO5.out
        have hu := HU5.out
        refine (ho.keep (hT _ _ _ _ _ _ _ _ _ _ _) fun k hk e => by have := (ho.lt k hk).1; rw [At] at e; omega).lower _ (by omega)
  case neg =>
  by_cases hk3 : x0 = 3
  case pos =>
    have hX : x0.toNat = 3 := by rw [hk3]; rfl
    have HR4 : Hid (R = takeI b) := Lib.hid (by rw [HR3.out, if_neg hk1, if_neg hk2, if_pos hk3])
    clear hk1 hk2 hk3 HR3
    generalize x0.toNat = X at *
    subst hX
    have hen := refEntries_calls (some ad) cb b wr (by rw [HBL.out]; omega) HRB.out (by rw [HBL.out]; exact hn1)
    rw [HBL.out] at hen
    have HEN := Lib.hid hen
    clear hen
    go_wp2_with fail
    refine HEN.out.mono ?_
    rintro e w4 hpost
    clear HEN hcell d0 d1 d2 d3 d4 d5 d6 d7 d8 d9 d10 y0 y1 y2 y3 y4 y5 y6 y7 y8 y9 y10 u1
    cases htk : takeI b with
    | error er =>
      rw [htk] at hpost
      obtain ⟨rfl, hk4⟩ : e = .returned (.tuple #[.agg zero11, .int .i64 er]) ∧ Keeps wr w4 := hpost
      have HE : Hid (R = .error er) := Lib.hid (by rw [HR4.out, htk])
      have H4 := Lib.hid (H1.out.later hk4)
      clear hk4 htk HR4
      obtain ⟨⟨d0, d1, d2, d3, d4, d5, d6, d7, d8, d9, d10⟩, y0, y1, y2, y3, y4, y5, y6, y7, y8, y9, y10⟩ := cells11 H4.out.res
      have u1 := obj_lt H4.out.res
      go_wp2
      refine bodyPost_ret (v := .tuple #[.agg zero11, .int .i64 er]) (by simp [results, Tryz.results66, go_sem, u1, d0, d1, d2, d3, d4, d5, d6, d7, d8, d9, d10]) rfl ?_
      rw [HE.out]
      exact ⟨rfl, res_keeps H4.out.keeps ((set11 _ _ _ _ _ _ _ _ _ _ _))⟩
    | ok f =>
      rw [htk] at hpost
      obtain ⟨A3, c3, B3, d3', E3, k3, rfl, hf3, hk4⟩ : ∃ A3 c3 B3 d3' E3 k3, _ ∧ _ ∧ _ := hpost
      have HE : Hid (R = .ok f) := Lib.hid (by rw [HR4.out, htk])
      have H4 := Lib.hid (H1.out.later hk4)
      have HU := Lib.hid (obj_lt H1.out.res)
      have HF := Lib.hid hf3
      obtain ⟨n1, hn1'⟩ : ∃ n1, n1 = f.cols.length := ⟨_, rfl⟩
      obtain ⟨n2, hn2⟩ : ∃ n2, n2 = f.block.length := ⟨_, rfl⟩
      obtain ⟨n3, hn3⟩ : ∃ n3, n3 = f.ents.length := ⟨_, rfl⟩
      have hfc : frCells A3 c3 B3 d3' E3 k3 f = #[.int .i64 f.kind, .int .i64 f.number, .slice A3 n1 c3, .int .i64 f.seq, .int .i64 f.first, .int .i64 f.rows, .slice B3 n2 d3', .int .i64 f.spot, .int .i64 f.frames, .int .i64 f.irows, .slice E3 n3 k3] := by rw [hn1', hn2, hn3]; rfl
      rw [hfc]
      have HFC := Lib.hid hfc
      clear hfc hn1' hn2 hn3 hk4 hf3 htk HR4
      obtain ⟨⟨d0, d1, d2, d3, d4, d5, d6, d7, d8, d9, d10⟩, y0, y1, y2, y3, y4, y5, y6, y7, y8, y9, y10⟩ := cells11 H4.out.res
      have u1 := obj_lt H4.out.res
      go_wp2
      refine bodyPost_ret (v := .tuple #[.agg #[.int .i64 f.kind, .int .i64 f.number, .slice A3 n1 c3, .int .i64 f.seq, .int .i64 f.first, .int .i64 f.rows, .slice B3 n2 d3', .int .i64 f.spot, .int .i64 f.frames, .int .i64 f.irows, .slice E3 n3 k3], .int .i64 0]) (by simp [results, Tryz.results66, go_sem, u1, d0, d1, d2, d3, d4, d5, d6, d7, d8, d9, d10]) rfl ?_
      rw [HE.out]
      have hT := fun v0 v1 v2 v3 v4 v5 v6 v7 v8 v9 v10 => set11 (w1 := w4) (g := w.heap.size) v0 v1 v2 v3 v4 v5 v6 v7 v8 v9 v10
      refine ⟨A3, c3, B3, d3', E3, k3, by rw [HFC.out], ?_, res_keeps H4.out.keeps (hT _ _ _ _ _ _ _ _ _ _ _)⟩
      exact (HF.out.touch (hT _ _ _ _ _ _ _ _ _ _ _) HU.out).lower (Nat.le_of_lt HU.out)
  case neg =>
  have HE : Hid (R = .error 60) := Lib.hid (by rw [HR3.out, if_neg hk1, if_neg hk2, if_neg hk3])
  have q1 : (((x0.toNat : Nat) : Int) == 1) = false := by rw [beq_eq_false_iff_ne]; intro e; exact hk1 (UInt8.toNat_inj.1 (by show x0.toNat = 1; omega))
  have q2 : (((x0.toNat : Nat) : Int) == 2) = false := by rw [beq_eq_false_iff_ne]; intro e; exact hk2 (UInt8.toNat_inj.1 (by show x0.toNat = 2; omega))
  have q3 : (((x0.toNat : Nat) : Int) == 3) = false := by rw [beq_eq_false_iff_ne]; intro e; exact hk3 (UInt8.toNat_inj.1 (by show x0.toNat = 3; omega))
  clear hk1 hk2 hk3 HR3
  go_wp2
  refine bodyPost_ret (v := .tuple #[.agg zero11, .int .i64 60]) (by simp [results, Tryz.results66, go_sem, u1, d0, d1, d2, d3, d4, d5, d6, d7, d8, d9, d10]) rfl ?_
  rw [HE.out]
  exact ⟨rfl, res_keeps H1.out.keeps ((set11 _ _ _ _ _ _ _ _ _ _ _))⟩
end Go.Proofs.YtihodcnnappkbaaGreatDoor
