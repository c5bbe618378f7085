/-
  The walk of the document's Stuff. Condition: the bytes read as a list.
-/
import Derived.Test.YtnfefjlplipeiabStuffLive
namespace Go.Proofs.Ytnfefjlplipeiab
open Go.RowKit Go.BigFrame
set_option linter.unusedVariables false
set_option linter.unusedSimpArgs false
set_option linter.unusedSectionVars false

structure RefRel (w : World) (b : List UInt8) (v a o : Value) (wr : World) : Prop where
  out : ∃ (at_ : Nat) (st : List UInt8) (op : Bool), at_ ≤ b.length ∧ a = .int .i64 (at_ : Int) ∧ o = .bool op ∧ OwnB 5 wr w.heap.size v st ∧ st.length ≤ 2 * at_ + 2 ∧
    (if op = true then st ++ stuffOf (b.drop at_) = stuffOf b ∧ st.length ≤ 2 * at_ else st = stuffOf b) ∧ Keeps w wr
def openV (n : Nat) (a o : Value) : Nat := match o with | .bool true => n - (intOf a).toNat + 1 | _ => 0

theorem grp_get (l : List UInt8) (k : Nat) (h : k < (grp l).length) : ∃ h2 : k < l.length, l[k]'h2 ≠ 0 ∧ l[k]'h2 = (grp l)[k]'h := by
  have hl := grp_le l
  have h2 : k < l.length := by omega
  have e : l[k]? = (grp l ++ l.drop (grp l).length)[k]? := congrArg (fun x : List UInt8 => x[k]?) (grp_append l)
  rw [List.getElem?_append_left h, List.getElem?_eq_getElem h2, List.getElem?_eq_getElem h] at e
  injection e with e
  refine ⟨h2, ?_, e⟩
  rw [e]
  intro e0
  exact grp_no l (by rw [← e0]; exact List.getElem_mem h)

theorem step_last {st l S : List UInt8} {cb : UInt8} (h : l.length ≤ (grp l).length) (hs : st ++ stuffOf l = S) (hc : cb = UInt8.ofNat ((grp l).length + 1)) : st ++ [cb] ++ grp l = S := by
  obtain ⟨e1, e2⟩ := stuff_last l h
  rw [← hs, e2, hc, e1]
  simp
theorem step_less {st l S : List UInt8} {cb : UInt8} (h : (grp l).length < l.length) (h2 : (grp l).length < 254) (hs : st ++ stuffOf l = S) (hc : cb = UInt8.ofNat ((grp l).length + 1)) : st ++ [cb] ++ grp l ++ stuffOf (l.drop ((grp l).length + 1)) = S := by
  rw [← hs, (stuff_less l h h2).2, hc]
  simp
theorem step_full {st l S : List UInt8} {cb : UInt8} (h : (grp l).length < l.length) (h2 : (grp l).length = 254) (hs : st ++ stuffOf l = S) (hc : cb = UInt8.ofNat ((grp l).length + 1)) : st ++ [cb] ++ grp l ++ stuffOf (l.drop (grp l).length) = S := by
  rw [← hs, (stuff_full l h h2).2.2, hc, h2]
  simp

section
variable {w wr : World} {b l st : List UInt8} {cb : UInt8} {v : Value} {at_ q : Nat} (hN : q = (grp l).length) (hLL : at_ + l.length = b.length) (hL : l = b.drop at_) (hS : st ++ stuffOf l = stuffOf b) (hC : cb = UInt8.ofNat (q + 1)) (hsl : st.length ≤ 2 * at_)
  (hF : OwnB 5 wr w.heap.size v (st ++ [cb] ++ grp l)) (hK : Keeps w wr)
include hN hLL hL hS hC hsl hF hK
theorem len_step : (st ++ [cb] ++ grp l).length = st.length + 1 + q := by rw [List.length_append, List.length_append, ← hN]; rfl
theorem close_last (h : ¬ at_ + q < b.length) : RefRel w b v (.int .i64 ((at_ : Int) + (q : Int))) (.bool (decide ((at_ : Int) + (q : Int) < (b.length : Int)))) wr ∧
    openV b.length (.int .i64 ((at_ : Int) + (q : Int))) (.bool (decide ((at_ : Int) + (q : Int) < (b.length : Int)))) < openV b.length (.int .i64 (at_ : Int)) (.bool true) := by
  have hd : decide ((at_ : Int) + (q : Int) < (b.length : Int)) = false := by rw [decide_eq_false_iff_not]; omega
  have hq := (grp_le l).2
  have hlen := len_step hN hLL hL hS hC hsl hF hK
  rw [hd]
  refine ⟨.mk ⟨at_ + q, _, false, by omega, by go_num, rfl, hF, by rw [hlen]; omega, ?_, hK⟩, by simp [openV]⟩
  simp only [Bool.false_eq_true, if_false]
  exact step_last (by omega) hS (by rw [hC, hN])
theorem close_full (h : at_ + q < b.length) (h2 : ¬ q < 254) : RefRel w b v (.int .i64 ((at_ : Int) + (q : Int))) (.bool true) wr ∧
    openV b.length (.int .i64 ((at_ : Int) + (q : Int))) (.bool true) < openV b.length (.int .i64 (at_ : Int)) (.bool true) := by
  have hq := grp_le l
  have hlen := len_step hN hLL hL hS hC hsl hF hK
  refine ⟨.mk ⟨at_ + q, _, true, by omega, by go_num, rfl, hF, by rw [hlen]; omega, ?_, hK⟩, by simp [openV, intOf]; omega⟩
  simp only [if_true]
  refine ⟨?_, by rw [hlen]; omega⟩
  have := step_full (st := st) (cb := cb) (by omega) (by omega) hS (by rw [hC, hN])
  rw [← hN] at this
  rw [← this, hL, List.drop_drop]
theorem close_less (h : at_ + q < b.length) (h2 : q < 254) : RefRel w b v (.int .i64 ((at_ : Int) + (q : Int) + 1)) (.bool true) wr ∧
    openV b.length (.int .i64 ((at_ : Int) + (q : Int) + 1)) (.bool true) < openV b.length (.int .i64 (at_ : Int)) (.bool true) := by
  have hq := grp_le l
  have hlen := len_step hN hLL hL hS hC hsl hF hK
  refine ⟨.mk ⟨at_ + q + 1, _, true, by omega, by go_num, rfl, hF, by rw [hlen]; omega, ?_, hK⟩, by simp [openV, intOf]; omega⟩
  simp only [if_true]
  refine ⟨?_, by rw [hlen]; omega⟩
  have := step_less (st := st) (cb := cb) (by omega) (by omega) hS (by rw [hC, hN])
  rw [← hN] at this
  rw [← this, hL, List.drop_drop]
  rfl
end

set_option maxRecDepth 100000 in
set_option maxHeartbeats 4000000 in
theorem refStuff_calls (A : Option Addr) (c : Nat) (b : List UInt8) (w : World) (hl : b.length ≤ 274877906944) (hr : Reads w A b) :
    Calls Try.prog 17 #[.slice A b.length c] w fun e w' => ∃ v, e = .returned v ∧ OwnB 5 w' w.heap.size v (stuffOf b) ∧ Keeps w w' := by
  have HR := Lib.hid hr
  clear hr
  go_enter Try.func17, Try.ntmps17
  go_wp2
  go_loopw [3, 4, 5] (fun v a o wr => RefRel w b v a o wr) (fun _ a o _ => openV b.length a o)
  case atStart => exact ⟨0, [], true, Nat.zero_le _, rfl, rfl, OwnB.nil _ _ _, by simp, by simp, Keeps.refl _⟩
  case round =>
    obtain ⟨at_, st, op, hat, rfl, rfl, hown, hsl, hop, hk⟩ := hrel
    have HO := Lib.hid hown
    have HK := Lib.hid hk
    clear hown hk
    cases op with
    | false =>
      have HOP := Lib.hid (show st = stuffOf b by simpa using hop)
      clear hop
      go_wp2
      go_ret
      refine ⟨_, rfl, ?_, HK.out⟩
      rw [← HOP.out]
      exact HO.out
    | true =>
      obtain ⟨hst, hsl2⟩ : st ++ stuffOf (b.drop at_) = stuffOf b ∧ st.length ≤ 2 * at_ := by simpa using hop
      obtain ⟨l, hl1⟩ : ∃ l, l = b.drop at_ := ⟨_, rfl⟩
      rw [← hl1] at hst
      have hll : at_ + l.length = b.length := by rw [hl1, List.length_drop]; omega
      have hgl := grp_le l
      have hgget : ∀ k (h : k < (grp l).length), ∃ hb : at_ + k < b.length, b[at_ + k]'hb ≠ 0 ∧ b[at_ + k]'hb = (grp l)[k]'h := by
        intro k h
        obtain ⟨h2, h3, h4⟩ := grp_get l k h
        have e : ∀ hb : at_ + k < b.length, b[at_ + k]'hb = l[k]'h2 := by intro hb; subst hl1; rw [List.getElem_drop]
        exact ⟨by omega, by rw [e]; exact h3, by rw [e]; exact h4⟩
      have hgstop : (grp l).length < 254 → (grp l).length < l.length → ∃ hb : at_ + (grp l).length < b.length, b[at_ + (grp l).length]'hb = 0 := by
        intro h1 h2
        have := grp_stop l h1 h2
        subst hl1
        rw [List.getElem_drop] at this
        exact ⟨by omega, this⟩
      have HST := Lib.hid hst
      have HG := Lib.hid hgget
      have HS := Lib.hid hgstop
      have HL1 := Lib.hid hl1
      have HLL := Lib.hid hll
      clear hst hgget hgstop hop hl1
      have hgb : at_ + (grp l).length ≤ b.length := by omega
      clear hll
      obtain ⟨n, hn⟩ : ∃ n, n = (grp l).length := ⟨_, rfl⟩
      rw [← hn] at hgl hgb
      have HN := Lib.hid hn
      clear hn
      go_wp2
      go_loopw [6] (fun k wz => ∃ q : Nat, q ≤ n ∧ k = .int .i64 (q : Int) ∧ wz = wr) (fun k _ => n - (intOf k).toNat)
      case atStart => exact ⟨0, Nat.zero_le _, rfl, rfl⟩
      case round =>
        obtain ⟨q, hq, rfl, rfl⟩ := hrel
        by_cases hqn : q < n
        · obtain ⟨hb, h1, h2⟩ := HG.out q (by rw [← HN.out]; exact hqn)
          obtain ⟨ad, rfl, hc⟩ := (HR.out.below HK.out.below).out (at_ + q) hb
          have hz : ((((b[at_ + q]'hb).toNat : Nat) : Int) != 0) = true := by
            rw [bne_iff_ne]; intro e; apply h1; exact UInt8.toNat_inj.1 (by simpa using e)
          clear h1 h2
          go_wp2
          exact ⟨⟨q + 1, by omega, by go_num, trivial⟩, by simp [intOf]; omega⟩
        · obtain rfl : q = n := by omega
          clear hqn hq
          obtain ⟨cb, hcb⟩ : ∃ cb, cb = UInt8.ofNat (q + 1) := ⟨_, rfl⟩
          have HU := Lib.hid (show cb.toNat = q + 1 by rw [hcb]; exact ofNat_toNat q hgl.1)
          have HCB := Lib.hid hcb
          have hcv : IntKind.u8.wrap ((q : Int) + 1) = (q : Int) + 1 := by simp [IntKind.wrap, IntKind.bits, IntKind.signed]; omega
          clear hcb
          have hcase : (¬ q < 254 ∧ ¬ at_ + q < b.length) ∨ (¬ q < 254 ∧ at_ + q < b.length) ∨ (q < 254 ∧ ¬ at_ + q < b.length) ∨ (q < 254 ∧ at_ + q < b.length ∧ ∃ ad, A = some ad ∧ wr.cell? (ad.add (at_ + q)) = some (.int .u8 0)) := by
            by_cases h1 : q < 254
            · by_cases h2 : at_ + q < b.length
              · refine .inr (.inr (.inr ⟨h1, h2, ?_⟩))
                obtain ⟨hb, hz⟩ := HS.out (by rw [← HN.out]; exact h1) (by rw [← HN.out]; have := HLL.out; omega)
                simp only [← HN.out] at hb hz
                obtain ⟨ad, e, hc⟩ := (HR.out.below HK.out.below).out (at_ + q) hb
                rw [hz] at hc
                exact ⟨ad, e, hc⟩
              · exact .inr (.inr (.inl ⟨h1, h2⟩))
            · by_cases h2 : at_ + q < b.length
              · exact .inr (.inl ⟨h1, h2⟩)
              · exact .inl ⟨h1, h2⟩
          rcases hcase with ⟨k1, k2⟩ | ⟨k1, k2⟩ | ⟨k1, k2⟩ | ⟨k1, k2, ad, rfl, k3⟩
          all_goals
            go_wp2_with (at_builtin; refine wpList_append_bytes (w0 := w) w.heap.size rfl _ _ 22 5 rfl Try.underlying22 info_u8 _ st [cb] rfl (HO.out.below ((Keeps.refl _).alloc _).below) _ 1 rfl (Reads.new_at _ [cb] 5 (0, 0) #[.int .u8 ((q : Int) + 1)] (by rw [show u8s [cb] = [.int .u8 ((cb.toNat : Nat) : Int)] from rfl, HU.out]; rfl) _ (by simp)) (by simp; omega) (by have := HK.out.size; simp; omega) (HK.out.alloc _) ?_)
            intro v1 w1 hown1 hb1 _ _
            have HO1 := Lib.hid hown1
            have HK1 := Lib.hid (show Keeps w w1 from hb1)
            clear hown1 hb1 hcv
            go_wp2
            go_loopw [3, 7] (fun v i wz => ∃ m : Nat, m ≤ q ∧ i = .int .i64 (m : Int) ∧ OwnB 5 wz w.heap.size v (st ++ [cb] ++ (grp l).take m) ∧ Keeps w wz) (fun _ i _ => q - (intOf i).toNat)
            case atStart => exact ⟨0, Nat.zero_le _, rfl, by simpa using HO1.out, HK1.out⟩
          all_goals
            obtain ⟨m, hm, rfl, ho2, hk2⟩ := hrel
            have HO2 := Lib.hid ho2
            have HK2 := Lib.hid hk2
            clear ho2 hk2
            by_cases hmq : m < q
            · obtain ⟨hb, h1, h2⟩ := HG.out m (by rw [← HN.out]; exact hmq)
              obtain ⟨ad2, e, hc⟩ := (HR.out.below HK2.out.below).out (at_ + m) hb
              cases e
              have hlen2 : ((grp l).take m).length ≤ 254 := by rw [List.length_take]; omega
              have hnx : (grp l).take (m + 1) = (grp l).take m ++ [b[at_ + m]'hb] := by rw [List.take_succ_eq_append_getElem (by rw [← HN.out]; exact hmq), h2]
              have HNX := Lib.hid hnx
              clear h1 h2 hnx
              go_wp2_with (at_builtin; refine wpList_append_bytes (w0 := w) w.heap.size rfl _ _ 22 5 rfl Try.underlying22 info_u8 _ (st ++ [cb] ++ (grp l).take m) [b[at_ + m]'hb] rfl (HO2.out.below ((Keeps.refl _).alloc _).below) _ 1 rfl (Reads.new_at _ [b[at_ + m]'hb] 5 (0, 0) #[.int .u8 (((b[at_ + m]'hb).toNat : Nat) : Int)] rfl _ (by simp)) (by rw [List.length_append, List.length_append]; simp only [List.length_cons, List.length_nil]; omega) (by have := HK2.out.size; simp; omega) (HK2.out.alloc _) ?_)
              intro v2 w2 hown2 hb2 _ _
              have HO3 := Lib.hid hown2
              have HK3 := Lib.hid (show Keeps w w2 from hb2)
              clear hown2 hb2
              go_wp2
              exact ⟨⟨m + 1, by omega, by go_num, by rw [HNX.out]; have := HO3.out; simpa [List.append_assoc] using this, HK3.out⟩, by simp [intOf]; omega⟩
            · have hfin := HO2.out
              rw [List.take_of_length_le (by rw [← HN.out]; omega)] at hfin
              have HF := Lib.hid hfin
              clear hfin HO2
              go_wp2
              all_goals first
                | exact close_last HN.out HLL.out HL1.out HST.out HCB.out hsl2 HF.out HK2.out k2
                | exact close_full HN.out HLL.out HL1.out HST.out HCB.out hsl2 HF.out HK2.out k2 k1
                | exact close_less HN.out HLL.out HL1.out HST.out HCB.out hsl2 HF.out HK2.out k2 k1
end Go.Proofs.Ytnfefjlplipeiab
