/-
  The walk of Unstuff. Condition: the bytes read as a list.
-/
import Derived.Test.YtnfefjlplipeiabStuffWalk
namespace Go.Proofs.Ytnfefjlplipeiab
open Go.RowKit Go.BigFrame
set_option linter.unusedVariables false
set_option linter.unusedSimpArgs false

theorem nz_mem (s : List UInt8) : (0 : UInt8) ∈ s ↔ (nz s).length < s.length := by
  constructor
  · intro h
    rcases Nat.lt_or_ge (nz s).length s.length with h2 | h2
    · exact h2
    · have e := nz_append s
      rw [List.drop_eq_nil_of_le h2, List.append_nil] at e
      rw [e] at h
      exact absurd h (nz_no s)
  · intro h
    have := nz_stop s h
    rw [List.getD_eq_getElem?_getD, List.getElem?_eq_getElem h] at this
    simp only [Option.getD_some] at this
    rw [← this]
    exact List.getElem_mem h

theorem Reads.if1 {w : World} {ad : Addr} {A2 : Option Addr} {t : List UInt8} {c1 k n : Nat} (h : Reads w (some ⟨ad.block, ad.off + 1, .none⟩) t) (hc : t.length + 1 ≤ c1) (hif : (if c1 = n + 1 then some ad else some (⟨ad.block, ad.off + (n + 1), .none⟩ : Addr)) = A2) : Reads w A2 (t.drop n) := by
  by_cases e : t.length ≤ n
  · rw [List.drop_eq_nil_of_le e]; exact Reads.nil _ _
  · rw [if_neg (by omega)] at hif
    subst hif
    refine h.drop n fun i => ?_
    rw [addr_add_mk, addr_add_mk]
    congr 1
    omega

def UnPost (w : World) (r : List UInt8 × Int) (e : Ending) (w' : World) : Prop :=
  ∃ v, e = .returned (.tuple #[v, .int .i64 r.2]) ∧ OwnB 5 w' w.heap.size v r.1 ∧ Keeps w w'
structure UnRel (w : World) (s : List UInt8) (s0 b0 f0 : Value) (wr : World) : Prop where
  out : ∃ (l b : List UInt8) (full : Bool) (A : Option Addr) (c : Nat), s0 = .slice A l.length c ∧ l.length ≤ c ∧ Reads w A l ∧ OwnB 5 wr w.heap.size b0 b ∧ f0 = .bool full ∧ 0 < l.length ∧ (0 : UInt8) ∉ l ∧ unGo l b full = unstuffOf s ∧ b.length + l.length ≤ s.length ∧ Keeps w wr

set_option maxRecDepth 100000 in
set_option maxHeartbeats 2000000 in
theorem unstuff_calls (A : Option Addr) (c : Nat) (s : List UInt8) (w : World) (hl : s.length ≤ 549755813888) (hc : s.length ≤ c) (hr : Reads w A s) :
    Calls Try.prog 12 #[.slice A s.length c] w (UnPost w (unstuffOf s)) := by
  have HR := Lib.hid hr
  clear hr
  by_cases h0 : (0 : UInt8) ∈ s
  · have hu : unstuffOf s = ([], 40) := by unfold unstuffOf; rw [if_pos h0]
    have hi : idx s = ((nz s).length : Int) := by unfold idx; rw [if_pos ((nz_mem s).1 h0)]
    have HI := Lib.hid hi
    have HU := Lib.hid hu
    clear hi hu h0
    go_enter Try.func12, Try.ntmps12
    go_wp2_with fail
    refine (at_value (b := ((nz s).length : Int)) HI.out (idx_calls A c s w HR.out)).mono ?_
    rintro e w1 ⟨rfl, rfl⟩
    go_wp2
    go_ret2
    rw [HU.out]
    exact ⟨_, rfl, OwnB.nil _ _ _, Keeps.refl _⟩
  · have hi : idx s = -1 := by unfold idx; rw [if_neg (fun h => h0 ((nz_mem s).2 h))]
    have HI := Lib.hid hi
    have H0 := Lib.hid h0
    clear hi h0
    by_cases hs0 : s.length = 0
    · have hu : unstuffOf s = ([], 30) := by unfold unstuffOf; rw [if_neg H0.out, if_pos hs0]
      have HU := Lib.hid hu
      clear hu
      go_enter Try.func12, Try.ntmps12
      go_wp2_with fail
      rw [← hs0]
      refine (at_value (b := (-1 : Int)) HI.out (idx_calls A c s w HR.out)).mono ?_
      rintro e w1 ⟨rfl, rfl⟩
      go_wp2
      go_ret2
      rw [HU.out]
      exact ⟨_, rfl, OwnB.nil _ _ _, Keeps.refl _⟩
    · have hu : unGo s [] false = unstuffOf s := by unfold unstuffOf; rw [if_neg H0.out, if_neg hs0]
      have HU := Lib.hid hu
      have hpos : 0 < s.length := by omega
      have hs0' : ((s.length : Int) == 0) = false := by rw [beq_eq_false_iff_ne]; omega
      clear hu hs0
      go_enter Try.func12, Try.ntmps12
      go_wp2_with fail
      refine (at_value (b := (-1 : Int)) HI.out (idx_calls A c s w HR.out)).mono ?_
      rintro e w1 ⟨rfl, rfl⟩
      go_wp2
      go_loopw [0, 4, 5] (fun s0 b0 f0 wr => UnRel w s s0 b0 f0 wr) (fun s0 _ _ _ => lenV s0)
      case atStart => exact ⟨s, [], false, A, c, rfl, hc, HR.out, OwnB.nil _ _ _, rfl, hpos, H0.out, HU.out, by simp, Keeps.refl _⟩
      case round =>
        obtain ⟨l, b, full, A1, c1, rfl, hlc, hrl, hown, rfl, hlp, hnz, hgo, hsum, hk⟩ := hrel
        obtain ⟨ch, t, rfl⟩ : ∃ ch t, l = ch :: t := by cases l with | nil => simp at hlp | cons a t => exact ⟨a, t, rfl⟩
        simp only [List.mem_cons, not_or, List.length_cons] at hnz hlc hlp hsum
        have hc0 : ch.toNat ≠ 0 := fun e => hnz.1 (UInt8.toNat_inj.1 (by simpa using e.symm))
        have hc1 : ch.toNat < 256 := UInt8.toNat_lt ch
        obtain ⟨k, hk1⟩ : ∃ k, ch.toNat = k + 1 := ⟨ch.toNat - 1, by omega⟩
        rw [unGo_cons, hk1, Nat.add_sub_cancel] at hgo
        have hk254 : k ≤ 254 := by omega
        obtain ⟨ad, rfl, x0⟩ := hrl.out 0 (by simp)
        simp only [List.getElem_cons_zero, hk1] at x0
        have x0' : wr.cell? (ad.add 0) = some (.int .u8 ((k : Int) + 1)) := by rw [hk.below.cell (World.block_lt_of_cell? w _ x0)]; exact x0
        have x1 : wr.cell? ad = some (.int .u8 ((k : Int) + 1)) := by rw [addr_add_zero] at x0'; exact x0'
        have HRT := Lib.hid (show Reads w (some ⟨ad.block, ad.off + 1, none⟩) t from hrl.drop 1 (addr_from ad 1 (by omega)))
        have HGO := Lib.hid hgo
        have HO := Lib.hid hown
        have HK := Lib.hid hk
        have HNZ := Lib.hid hnz.2
        clear hgo hown hk hnz hc0 hc1 hk1 x0 hrl HU
        rw [List.length_cons]
        by_cases a1 : t.length < k
        · have hr := HGO.out
          rw [if_pos a1] at hr
          have HU := Lib.hid hr
          clear hr HGO
          go_wp2
          go_ret2
          rw [← HU.out]
          exact ⟨_, rfl, OwnB.nil _ _ _, HK.out⟩
        · obtain ⟨g, hg⟩ : ∃ g, g = t.take k := ⟨_, rfl⟩
          obtain rfl : k = g.length := by rw [hg, List.length_take]; omega
          obtain ⟨A2, hif⟩ : ∃ A2, (if c1 = 1 then some ad else some (⟨ad.block, ad.off + 1, none⟩ : Addr)) = A2 := ⟨_, rfl⟩
          have hr2 : Reads w A2 g := by
            have := (HRT.out.if1 (k := 0) (n := 0) hlc hif).take g.length
            rwa [List.drop_zero, ← hg] at this
          have hr3 : Reads w (some (ad.add (1 + g.length))) (t.drop g.length) := HRT.out.drop g.length fun i => by
            rw [addr_add_mk, addr_add_add, addr_add_pos ad _ (by omega)]
            congr 1
            omega
          have HR2 := Lib.hid hr2
          have HR3 := Lib.hid hr3
          have HG := Lib.hid hg
          have hsub : 1 + g.length - 1 = g.length := by omega
          clear hr2 hr3 hg HRT
          go_wp2_with (at_builtin; refine wpList_append_bytes (w0 := w) w.heap.size rfl _ _ 22 5 rfl Try.underlying22 info_u8 _ b g rfl HO.out A2 (c1 - 1) (by show Value.slice A2 (1 + g.length - 1) (c1 - 1) = _; rw [hsub]) ?a1 ?a2 ?a3 ?a4 ?_)
          case a1 => exact HR2.out.below HK.out.below
          case a2 => omega
          case a3 => exact HK.out.size
          case a4 => exact HK.out
          intro v1 w1 hown1 hb1 _ _
          have HO1 := Lib.hid hown1
          have HK1 := Lib.hid (show Keeps w w1 from hb1)
          clear hown1 hb1 HO HK x0' x1 hif
          by_cases a2 : t.length ≤ g.length
          · have hr := HGO.out
            rw [if_neg a1, if_pos a2, ← HG.out] at hr
            have hz : t.length + 1 - (1 + g.length) = 0 := by omega
            by_cases a3 : (full && g.length == 0) = true
            · rw [if_pos a3] at hr
              have HU := Lib.hid hr
              simp only [Bool.and_eq_true, beq_iff_eq] at a3
              obtain ⟨rfl, a4⟩ := a3
              clear hr HGO
              have a4' : ((g.length : Int) == 0) = true := by rw [a4]; rfl
              clear a4
              go_wp2
              all_goals (go_ret2; rw [← HU.out]; exact ⟨_, rfl, OwnB.nil _ _ _, HK1.out⟩)
            · rw [if_neg a3] at hr
              have HU := Lib.hid hr
              clear hr HGO
              have hfin : UnPost w (unstuffOf s) (.returned (.tuple #[v1, .int .i64 0])) w1 := by
                rw [← HU.out]
                exact ⟨_, rfl, HO1.out, HK1.out⟩
              have HF := Lib.hid hfin
              clear hfin
              cases full with
              | false =>
                clear a3
                go_wp2
                all_goals (go_ret2; exact HF.out)
              | true =>
                have a4' : ((g.length : Int) == 0) = false := by
                  rw [beq_eq_false_iff_ne]
                  intro e
                  apply a3
                  simp
                  exact List.eq_nil_of_length_eq_zero (by omega)
                clear a3
                go_wp2
                all_goals (go_ret2; exact HF.out)
          · have hr := HGO.out
            rw [if_neg a1, if_neg a2, ← HG.out] at hr
            have HU := Lib.hid hr
            clear hr HGO
            have hzz : (((t.length + 1 - (1 + g.length) : Nat) : Int) == 0) = false := by rw [beq_eq_false_iff_ne]; omega
            by_cases a5 : g.length = 254
            · have a5' : ((g.length : Int) == 254) = true := by rw [a5]; rfl
              have HU2 := Lib.hid (show unGo (t.drop g.length) (b ++ g) true = unstuffOf s by
                have := HU.out
                rw [if_pos a5, List.append_nil] at this
                rw [← this]
                congr 1
                rw [a5]; rfl)
              clear a5 HU
              go_wp2
              refine ⟨?relA, ?measA⟩
              case relA =>
                refine .mk ⟨t.drop g.length, b ++ g, true, some (ad.add (1 + g.length)), c1 - (1 + g.length), ?_, ?_, HR3.out, HO1.out, rfl, ?_, fun h => HNZ.out (List.mem_of_mem_drop h), HU2.out, ?_, HK1.out⟩
                · rw [List.length_drop, show t.length + 1 - (1 + g.length) = t.length - g.length by omega]
                  try rw [if_neg (show ¬ c1 = 1 + g.length by omega)]
                · rw [List.length_drop]; omega
                · rw [List.length_drop]; omega
                · rw [List.length_drop, List.length_append]; omega
              case measA => simp [lenV]; omega
            · have a5' : ((g.length : Int) == 254) = false := by rw [beq_eq_false_iff_ne]; omega
              have HU2 := Lib.hid (show unGo (t.drop g.length) (b ++ g ++ [0]) false = unstuffOf s by
                have := HU.out
                rw [if_neg a5] at this
                rw [← this]
                congr 1
                rw [eq_comm, beq_eq_false_iff_ne]; exact a5)
              clear HU
              go_wp2_with (at_builtin; refine wpList_append_bytes (w0 := w) w.heap.size rfl _ _ 22 5 rfl Try.underlying22 info_u8 _ (b ++ g) [0] rfl ?b0 _ 1 rfl ?b1 ?b2 ?b3 ?b4 ?_)
              case b0 => exact HO1.out.below ((Keeps.refl _).alloc _).below
              case b1 => exact Reads.new_at _ [0] 5 (0, 0) #[.int .u8 0] rfl _ (by simp)
              case b2 => simp; omega
              case b3 => have := HK1.out.size; simp; omega
              case b4 => exact HK1.out.alloc _
              intro v2 w2 hown2 hb2 _ _
              have HO2 := Lib.hid hown2
              have HK2 := Lib.hid (show Keeps w w2 from hb2)
              clear hown2 hb2 HO1 HK1
              go_wp2
              refine ⟨?relB, ?measB⟩
              case relB =>
                refine .mk ⟨t.drop g.length, b ++ g ++ [0], false, some (ad.add (1 + g.length)), c1 - (1 + g.length), ?_, ?_, HR3.out, (by rw [List.append_assoc]; exact HO2.out), rfl, ?_, fun h => HNZ.out (List.mem_of_mem_drop h), HU2.out, ?_, HK2.out⟩
                · rw [List.length_drop, show t.length + 1 - (1 + g.length) = t.length - g.length by omega]
                  try rw [if_neg (show ¬ c1 = 1 + g.length by omega)]
                · rw [List.length_drop]; omega
                · rw [List.length_drop]; omega
                · rw [List.length_drop, List.length_append, List.length_append]; simp only [List.length_cons, List.length_nil]; omega
              case measB => simp [lenV]; omega
end Go.Proofs.Ytnfefjlplipeiab
