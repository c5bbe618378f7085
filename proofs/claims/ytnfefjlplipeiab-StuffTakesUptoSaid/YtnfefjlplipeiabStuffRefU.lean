/-
  The walk of the document's Unstuff. Condition: the bytes read as a list.
-/
import Derived.Test.YtnfefjlplipeiabStuffRef
namespace Go.Proofs.Ytnfefjlplipeiab
open Go.RowKit Go.BigFrame
set_option linter.unusedVariables false
set_option linter.unusedSimpArgs false
set_option linter.unusedSectionVars false

theorem nz_get (l : List UInt8) (k : Nat) (h : k < (nz l).length) : ∃ h2 : k < l.length, l[k]'h2 ≠ 0 := by
  have hl := nz_le l
  have h2 : k < l.length := by omega
  have e : l[k]? = (nz l ++ l.drop (nz l).length)[k]? := congrArg (fun x : List UInt8 => x[k]?) (nz_append l)
  rw [List.getElem?_append_left h, List.getElem?_eq_getElem h2, List.getElem?_eq_getElem h] at e
  injection e with e
  refine ⟨h2, ?_⟩
  rw [e]
  intro e0
  exact nz_no l (by rw [← e0]; exact List.getElem_mem h)

def endOf (last ahead : Nat) (b : List UInt8) : List UInt8 × Int := if last = 1 ∧ ahead = 255 then ([], 5) else (b, 0)
structure URel (w : World) (s : List UInt8) (v a la ah : Value) (wr : World) : Prop where
  out : ∃ (at_ last ahead : Nat) (b : List UInt8), at_ ≤ s.length ∧ a = .int .i64 (at_ : Int) ∧ la = .int .i64 (last : Int) ∧ ah = .int .i64 (ahead : Int) ∧ last ≤ 255 ∧ ahead ≤ 255 ∧ OwnB 5 wr w.heap.size v b ∧ b.length ≤ at_ ∧
    (at_ < s.length → unGo (s.drop at_) b (last == 255) = unstuffOf s) ∧ (¬ at_ < s.length → endOf last ahead b = unstuffOf s) ∧ Keeps w wr

section
variable {w wr : World} {s t b : List UInt8} {v : Value} {at_ last q : Nat} {full : Bool} (hlt : at_ + 1 + t.length = s.length) (ht : t = s.drop (at_ + 1)) (hq : q ≤ 254) (ha : ¬ t.length < q) (hbl : b.length ≤ at_) (hla : last ≤ 255)
  (hgo : (if t.length < q then (([] : List UInt8), (30 : Int)) else if t.length ≤ q then (if (last == 255) && q == 0 then ([], 5) else (b ++ t.take q, 0)) else unGo (t.drop q) (b ++ t.take q ++ (if q = 254 then [] else [0])) (q == 254)) = unstuffOf s) (hK : Keeps w wr)
include hlt ht hq ha hbl hla hgo hK
theorem u_end (h : t.length ≤ q) (hF : OwnB 5 wr w.heap.size v (b ++ t.take q)) : URel w s v (.int .i64 ((at_ : Int) + (q : Int) + 1)) (.int .i64 ((q : Int) + 1)) (.int .i64 (last : Int)) wr := by
  rw [if_neg ha, if_pos h] at hgo
  have hlen : (b ++ t.take q).length = b.length + q := by rw [List.length_append, List.length_take]; omega
  refine .mk ⟨at_ + q + 1, q + 1, last, _, by omega, by go_num, by go_num, rfl, by omega, hla, hF, by rw [hlen]; omega, fun h => by omega, fun _ => ?_, hK⟩
  rw [← hgo]
  unfold endOf
  by_cases h1 : last = 255 ∧ q = 0
  · rw [if_pos ⟨by omega, h1.1⟩, if_pos (by simp [h1.1, h1.2])]
  · rw [if_neg (fun h => h1 ⟨h.2, by omega⟩), if_neg (by simp only [Bool.and_eq_true, beq_iff_eq]; exact h1)]
theorem u_less (h : ¬ t.length ≤ q) (h2 : q < 254) (hF : OwnB 5 wr w.heap.size v (b ++ t.take q ++ [0])) : URel w s v (.int .i64 ((at_ : Int) + (q : Int) + 1)) (.int .i64 ((q : Int) + 1)) (.int .i64 (last : Int)) wr := by
  rw [if_neg ha, if_neg h, if_neg (show ¬ q = 254 by omega)] at hgo
  have hlen : (b ++ t.take q ++ [0]).length = b.length + q + 1 := by rw [List.length_append, List.length_append, List.length_take]; simp only [List.length_cons, List.length_nil]; omega
  refine .mk ⟨at_ + q + 1, q + 1, last, _, by omega, by go_num, by go_num, rfl, by omega, hla, hF, by rw [hlen]; omega, fun _ => ?_, fun h => by omega, hK⟩
  rw [← hgo, ht, List.drop_drop, show at_ + 1 + q = at_ + q + 1 by omega]
  congr 1
  rw [Bool.eq_iff_iff]
  simp
theorem u_full (h : ¬ t.length ≤ q) (h2 : ¬ q < 254) (hF : OwnB 5 wr w.heap.size v (b ++ t.take q)) : URel w s v (.int .i64 ((at_ : Int) + (q : Int) + 1)) (.int .i64 ((q : Int) + 1)) (.int .i64 (last : Int)) wr := by
  rw [if_neg ha, if_neg h, if_pos (show q = 254 by omega), List.append_nil] at hgo
  have hlen : (b ++ t.take q).length = b.length + q := by rw [List.length_append, List.length_take]; omega
  refine .mk ⟨at_ + q + 1, q + 1, last, _, by omega, by go_num, by go_num, rfl, by omega, hla, hF, by rw [hlen]; omega, fun _ => ?_, fun h => by omega, hK⟩
  rw [← hgo, ht, List.drop_drop, show at_ + 1 + q = at_ + q + 1 by omega]
  congr 1
  rw [Bool.eq_iff_iff]
  simp
end

set_option maxRecDepth 100000 in
set_option maxHeartbeats 4000000 in
theorem refUnstuff_calls (A : Option Addr) (c : Nat) (s : List UInt8) (w : World) (hl : s.length ≤ 274877906944) (hr : Reads w A s) :
    Calls Try.prog 19 #[.slice A s.length c] w (UnPost w (unstuffOf s)) := by
  have HR := Lib.hid hr
  have hnl := nz_le s
  clear hr
  go_enter Try.func19, Try.ntmps19
  go_wp2
  go_loopw [4] (fun i wz => ∃ k : Nat, k ≤ (nz s).length ∧ i = .int .i64 (k : Int) ∧ w = wz) (fun i _ => s.length - (intOf i).toNat)
  case atStart => exact ⟨0, Nat.zero_le _, rfl, rfl⟩
  case round =>
    obtain ⟨k, hk, rfl, rfl⟩ := hrel
    by_cases hkn : k < (nz s).length
    · obtain ⟨h2, h3⟩ := nz_get s k hkn
      obtain ⟨ad, rfl, hc⟩ := HR.out.out k h2
      have hz : ((((s[k]'h2).toNat : Nat) : Int) == 0) = false := by
        rw [beq_eq_false_iff_ne]; intro e; apply h3; exact UInt8.toNat_inj.1 (by simpa using e)
      clear h3
      go_wp2
      exact ⟨⟨k + 1, by omega, by go_num, trivial⟩, by simp [intOf]; omega⟩
    · by_cases hks : k < s.length
      · have hmem : (0 : UInt8) ∈ s := (nz_mem s).2 (by omega)
        have hz0 := nz_stop s (by omega)
        have hke : k = (nz s).length := by omega
        rw [← hke, List.getD_eq_getElem?_getD, List.getElem?_eq_getElem hks] at hz0
        simp only [Option.getD_some] at hz0
        obtain ⟨ad, rfl, hc⟩ := HR.out.out k hks
        rw [hz0] at hc
        have HU := Lib.hid (show unstuffOf s = ([], 40) by unfold unstuffOf; rw [if_pos hmem])
        clear hz0 hke hmem
        go_wp2
        go_ret2
        rw [HU.out]
        exact ⟨_, rfl, OwnB.nil _ _ _, Keeps.refl _⟩
      · have hno : (0 : UInt8) ∉ s := fun h => by have := (nz_mem s).1 h; omega
        have HNO := Lib.hid hno
        clear hno hkn
        by_cases hs0 : s.length = 0
        · have HU := Lib.hid (show unstuffOf s = ([], 30) by unfold unstuffOf; rw [if_neg HNO.out, if_pos hs0])
          go_wp2
          go_ret2
          rw [HU.out]
          exact ⟨_, rfl, OwnB.nil _ _ _, Keeps.refl _⟩
        · have HU := Lib.hid (show unGo s [] false = unstuffOf s by unfold unstuffOf; rw [if_neg HNO.out, if_neg hs0])
          have hs0' : ((s.length : Int) == 0) = false := by rw [beq_eq_false_iff_ne]; omega
          have hpos : 0 < s.length := by omega
          clear hs0
          go_wp2
          go_loopw [5, 6, 7, 8] (fun v a la ah wz => URel w s v a la ah wz) (fun _ a _ _ _ => s.length - (intOf a).toNat)
          case atStart => exact ⟨0, 0, 0, [], Nat.zero_le _, rfl, rfl, rfl, by omega, by omega, OwnB.nil _ _ _, by simp, fun _ => by simpa using HU.out, fun h => absurd hpos h, Keeps.refl _⟩
          case round =>
            obtain ⟨at_, last, ahead, b, hat, rfl, rfl, rfl, hla, hah, hown, hbl, hgo, hend, hkp⟩ := hrel
            have HO := Lib.hid hown
            have HK := Lib.hid hkp
            clear hown hkp HU
            by_cases hlt : at_ < s.length
            · have hgo2 := hgo hlt
              have hdrop := List.drop_eq_getElem_cons hlt
              obtain ⟨t, ht⟩ : ∃ t, t = s.drop (at_ + 1) := ⟨_, rfl⟩
              rw [hdrop, ← ht] at hgo2
              have htl : at_ + 1 + t.length = s.length := by rw [ht, List.length_drop]; omega
              have hc0 : (s[at_]'hlt).toNat ≠ 0 := fun e => HNO.out (by rw [show (0 : UInt8) = s[at_]'hlt from (UInt8.toNat_inj.1 (by simpa using e)).symm]; exact List.getElem_mem hlt)
              have hc1 : (s[at_]'hlt).toNat < 256 := UInt8.toNat_lt _
              obtain ⟨q, hq1⟩ : ∃ q, (s[at_]'hlt).toNat = q + 1 := ⟨(s[at_]'hlt).toNat - 1, by omega⟩
              rw [unGo_cons, hq1, Nat.add_sub_cancel] at hgo2
              have hq254 : q ≤ 254 := by omega
              obtain ⟨ad, rfl, x0⟩ := (HR.out.below HK.out.below).out at_ hlt
              rw [hq1] at x0
              have x1 : wr.cell? (ad.add at_) = some (.int .u8 ((q : Int) + 1)) := x0
              have HGO := Lib.hid hgo2
              have HT := Lib.hid ht
              have HTL := Lib.hid htl
              have hts : t.length = s.length - at_ - 1 := by omega
              clear hgo hend hgo2 hdrop ht hc0 hc1 hq1 x0
              by_cases a1 : t.length < q
              · have hU : unstuffOf s = ([], 30) := by rw [← HGO.out, if_pos a1]
                have HU := Lib.hid hU
                have a2 : (s.length : Int) - (at_ : Int) - 1 < (q : Int) := by omega
                clear hU hts htl
                go_wp2
                go_ret2
                rw [HU.out]
                exact ⟨_, rfl, OwnB.nil _ _ _, HK.out⟩
              · have a2 : (q : Int) ≤ (s.length : Int) - (at_ : Int) - 1 := by omega
                have hqs : at_ + q + 1 ≤ s.length := by omega
                clear hts htl
                go_wp2
                go_loopw [5, 10] (fun v i wz => ∃ m : Nat, m ≤ q ∧ i = .int .i64 (m : Int) ∧ OwnB 5 wz w.heap.size v (b ++ t.take m) ∧ Keeps w wz) (fun _ i _ => q - (intOf i).toNat)
                case atStart => exact ⟨0, Nat.zero_le _, rfl, by simpa using HO.out, HK.out⟩
                case round =>
                  obtain ⟨m, hm, rfl, ho2, hk2⟩ := hrel
                  have HO2 := Lib.hid ho2
                  have HK2 := Lib.hid hk2
                  clear ho2 hk2
                  by_cases hmq : m < q
                  · have hmt : m < t.length := by omega
                    have hmb : at_ + 1 + m < s.length := by have := HTL.out; omega
                    obtain ⟨ad2, e, hc⟩ := (HR.out.below HK2.out.below).out (at_ + 1 + m) hmb
                    cases e
                    have hlen2 : (b ++ t.take m).length ≤ 549755813888 := by rw [List.length_append, List.length_take]; omega
                    have hnx : t.take (m + 1) = t.take m ++ [s[at_ + 1 + m]'hmb] := by
                      rw [List.take_succ_eq_append_getElem hmt]
                      congr 2
                      have e : t[m]? = (s.drop (at_ + 1))[m]? := congrArg (fun x : List UInt8 => x[m]?) HT.out
                      rw [List.getElem?_drop, List.getElem?_eq_getElem hmt, List.getElem?_eq_getElem hmb] at e
                      injection e
                    have HNX := Lib.hid hnx
                    clear hnx
                    go_wp2_with (at_builtin; refine wpList_append_bytes (w0 := w) w.heap.size rfl _ _ 22 5 rfl Try.underlying22 info_u8 _ (b ++ t.take m) [s[at_ + 1 + m]'hmb] rfl (HO2.out.below ((Keeps.refl _).alloc _).below) _ 1 rfl (Reads.new_at _ [s[at_ + 1 + m]'hmb] 5 (0, 0) #[.int .u8 (((s[at_ + 1 + m]'hmb).toNat : Nat) : Int)] rfl _ (by simp)) (by simp only [List.length_cons, List.length_nil]; omega) (by have := HK2.out.size; simp; omega) (HK2.out.alloc _) ?_)
                    intro v2 w2 hown2 hb2 _ _
                    have HO3 := Lib.hid hown2
                    have HK3 := Lib.hid (show Keeps w w2 from hb2)
                    clear hown2 hb2
                    go_wp2
                    exact ⟨⟨m + 1, by omega, by go_num, by rw [HNX.out]; have := HO3.out; simpa [List.append_assoc] using this, HK3.out⟩, by simp [intOf]; omega⟩
                  · obtain rfl : m = q := by omega
                    clear hmq hm
                    by_cases hend2 : at_ + m + 1 < s.length
                    · have hnt : ¬ t.length ≤ m := by have := HTL.out; omega
                      by_cases h254 : m < 254
                      · have hlen2 : (b ++ t.take m).length ≤ 549755813888 := by rw [List.length_append, List.length_take]; omega
                        go_wp2_with (at_builtin; refine wpList_append_bytes (w0 := w) w.heap.size rfl _ _ 22 5 rfl Try.underlying22 info_u8 _ (b ++ t.take m) [0] rfl (HO2.out.below ((Keeps.refl _).alloc _).below) _ 1 rfl (Reads.new_at _ [0] 5 (0, 0) #[.int .u8 0] rfl _ (by simp)) (by simp only [List.length_cons, List.length_nil]; omega) (by have := HK2.out.size; simp; omega) (HK2.out.alloc _) ?_)
                        intro v2 w2 hown2 hb2 _ _
                        have HO3 := Lib.hid (show OwnB 5 w2 w.heap.size v2 (b ++ t.take m ++ [0]) by rw [List.append_assoc]; simpa using hown2)
                        have HK3 := Lib.hid (show Keeps w w2 from hb2)
                        clear hown2 hb2
                        go_wp2
                        exact ⟨u_less HTL.out HT.out hq254 a1 hbl hla HGO.out HK3.out hnt h254 HO3.out, by simp [intOf]; omega⟩
                      · go_wp2
                        exact ⟨u_full HTL.out HT.out hq254 a1 hbl hla HGO.out HK2.out hnt h254 HO2.out, by simp [intOf]; omega⟩
                    · have hnt : t.length ≤ m := by have := HTL.out; omega
                      by_cases h254 : m < 254
                      · go_wp2
                        exact ⟨u_end HTL.out HT.out hq254 a1 hbl hla HGO.out HK2.out hnt HO2.out, by simp [intOf]; omega⟩
                      · go_wp2
                        exact ⟨u_end HTL.out HT.out hq254 a1 hbl hla HGO.out HK2.out hnt HO2.out, by simp [intOf]; omega⟩
            · have HE := Lib.hid (hend hlt)
              clear hend hgo
              by_cases h1 : last = 1
              · by_cases h2 : ahead = 255
                · have HU := Lib.hid (show unstuffOf s = ([], 5) by rw [← HE.out]; unfold endOf; rw [if_pos ⟨h1, h2⟩])
                  have q1 : ((last : Int) == 1) = true := by rw [h1]; rfl
                  have q2 : ((ahead : Int) == 255) = true := by rw [h2]; rfl
                  clear h1 h2
                  go_wp2
                  go_ret2
                  rw [HU.out]
                  exact ⟨_, rfl, OwnB.nil _ _ _, HK.out⟩
                · have HU := Lib.hid (show unstuffOf s = (b, 0) by rw [← HE.out]; unfold endOf; rw [if_neg (fun h => h2 h.2)])
                  have q1 : ((last : Int) == 1) = true := by rw [h1]; rfl
                  have q2 : ((ahead : Int) == 255) = false := by rw [beq_eq_false_iff_ne]; omega
                  clear h1 h2
                  go_wp2
                  go_ret2
                  rw [HU.out]
                  exact ⟨_, rfl, HO.out, HK.out⟩
              · have HU := Lib.hid (show unstuffOf s = (b, 0) by rw [← HE.out]; unfold endOf; rw [if_neg (fun h => h1 h.1)])
                have q1 : ((last : Int) == 1) = false := by rw [beq_eq_false_iff_ne]; omega
                clear h1
                go_wp2
                go_ret2
                rw [HU.out]
                exact ⟨_, rfl, HO.out, HK.out⟩
end Go.Proofs.Ytnfefjlplipeiab
