/-
  The walks of the document's own functions of this layer: Same, Held, Runs. Condition: the slices read as lists.
-/
import Derived.Test.YtnfefjlplipeiaaSplitFeed
namespace Go.Proofs.Ytnfefjlplipeiaa
open Go.RowKit Go.BigFrame
set_option linter.unusedVariables false
set_option linter.unusedSimpArgs false

/-- runs that are read -/
def RunsAt (w : World) (A : Option Addr) (rs : List Run) : Prop :=
  ∀ i (hi : i < rs.length), ∃ g o, A = some ⟨g, o, none⟩ ∧ w.cell? ⟨g, o + i * 2, none⟩ = some (.int .i64 ((rs[i]'hi).1 : Int)) ∧
    ∃ bA bc, w.cell? ⟨g, o + i * 2 + 1, none⟩ = some (.slice bA (rs[i]'hi).2.length bc) ∧ Reads w bA (rs[i]'hi).2
theorem RunsAt.quiet {w : World} {A : Option Addr} {rs : List Run} (h : RunsAt w A rs) (n : Nat) : RunsAt (w.drewN n) A rs := h
theorem OwnRuns.at {w : World} {F : Nat → Prop} {v : Value} {rs : List Run} (h : OwnRuns w F v rs) : ∃ A c, v = .slice A rs.length c ∧ rs.length ≤ c ∧ RunsAt w A rs := by
  obtain ⟨cells, h1, h2, h3⟩ := h
  rcases h1.2 with ⟨h0, hn⟩ | ⟨g, cap, cur, h0, _, hg, hnc, hcm, _, htake⟩
  · refine ⟨none, 0, by rw [h0, hn], by omega, fun i hi => by omega⟩
  · refine ⟨_, cap, h0, hnc, fun i hi => ?_⟩
    have hr : RowAt w (some ⟨g, 0, none⟩) cells := RowAt.of_row hg _ _ htake
    obtain ⟨bv, a, b, c, d⟩ := h3 i hi
    obtain ⟨bA, bc, rfl, hbc, hbr, _⟩ := c.form
    obtain ⟨ad, e1, hc1⟩ := hr _ _ a
    cases e1
    obtain ⟨ad, e1, hc2⟩ := hr _ _ b
    cases e1
    rw [addr_add_mk] at hc1 hc2
    refine ⟨g, 0, rfl, ?_, bA, bc, ?_, hbr⟩
    · rw [show 0 + i * 2 = 0 + 2 * i by omega]; exact hc1
    · rw [show 0 + i * 2 + 1 = 0 + (2 * i + 1) by omega]; exact hc2

set_option maxHeartbeats 1000000 in
theorem same_calls (A B : Option Addr) (c d : Nat) (l m : List Run) (w : World) (hl : l.length ≤ 9223372036854775807) (hm : m.length ≤ 9223372036854775807) (hr : RunsAt w A l) (hr2 : RunsAt w B m) :
    Calls Try.prog 14 #[.slice A l.length c, .slice B m.length d] w fun e w' => e = .returned (.bool (decide (l = m))) ∧ Quiet w w' := by
  have HR := Lib.hid hr
  have HR2 := Lib.hid hr2
  clear hr hr2
  by_cases hlen : l.length = m.length
  · have b1 : ((l.length : Int) != (m.length : Int)) = false := by simp [hlen]
    have b2 : (l.length != m.length) = false := by simp [hlen]
    have HL := Lib.hid hlen
    clear hlen
    go_enter Try.func14, Try.ntmps14
    go_wp2
    go_loopw [13] (fun i wr => ∃ k : Nat, k ≤ l.length ∧ i = .int .i64 k ∧ l.take k = m.take k ∧ Quiet w wr) (fun i _ => l.length - (intOf i).toNat)
    case atStart => exact ⟨0, Nat.zero_le _, rfl, rfl, Quiet.refl w⟩
    case round =>
      obtain ⟨k, hk, rfl, htk, n, rfl⟩ := hrel
      have HK := Lib.hid htk
      clear htk b1 b2
      by_cases hlt : k < l.length
      · have hlt2 : k < m.length := by have := HL.out; omega
        obtain ⟨g1, o1, rfl, c1, bA1, bc1, c2, r1⟩ := HR.out k hlt
        obtain ⟨g2, o2, rfl, c3, bA2, bc2, c4, r2⟩ := HR2.out k hlt2
        have k1 := fun q => (r1.drewN q).conv (P := Try.prog) 28 9 5 Try.underlying28 Try.underlying5 Try.underlying9 bc1
        have k2 := fun q => (r2.drewN q).conv (P := Try.prog) 28 9 5 Try.underlying28 Try.underlying5 Try.underlying9 bc2
        by_cases he : (l[k]'hlt).1 = (m[k]'hlt2).1
        · have hb : ((((l[k]'hlt).1 : Nat) : Int) != (((m[k]'hlt2).1 : Nat) : Int)) = false := by simp [he]
          by_cases he2 : (l[k]'hlt).2 = (m[k]'hlt2).2
          · have hb2 := str_yes he2
            have hnx : l.take (k + 1) = m.take (k + 1) := by
              rw [List.take_succ_eq_append_getElem hlt, List.take_succ_eq_append_getElem hlt2, HK.out, show l[k]'hlt = m[k]'hlt2 from Prod.ext he he2]
            have HN := Lib.hid hnx
            have HE := Lib.hid he
            have HE2 := Lib.hid he2
            clear he he2 hnx
            go_wp2
            go_quiet (fail)
            go_wp2
            exact ⟨⟨k + 1, by omega, by go_num, HN.out, ⟨_, rfl⟩⟩, by simp [intOf]; omega⟩
          · have hb2 := str_no he2
            have HE := Lib.hid he
            have HE2 := Lib.hid he2
            clear he he2
            go_wp2
            go_quiet (fail)
            go_wp2
            go_ret
            refine ⟨ret_bool ?_, ⟨_, by rw [World.drewN_drewN]⟩⟩
            symm
            apply decide_eq_false
            intro h
            subst h
            exact HE2.out rfl
        · have hb : ((((l[k]'hlt).1 : Nat) : Int) != (((m[k]'hlt2).1 : Nat) : Int)) = true := by rw [bne_iff_ne]; omega
          have HE := Lib.hid he
          clear he
          go_wp2
          go_quiet (fail)
          go_wp2
          go_ret
          refine ⟨ret_bool ?_, ⟨_, by rw [World.drewN_drewN]⟩⟩
          symm
          apply decide_eq_false
          intro h
          subst h
          exact HE.out rfl
      · go_wp2
        go_ret
        refine ⟨ret_bool ?_, ⟨_, rfl⟩⟩
        symm
        apply decide_eq_true
        have := HK.out
        rwa [List.take_of_length_le (by omega), List.take_of_length_le (by have := HL.out; omega)] at this
  · have b1 : ((l.length : Int) != (m.length : Int)) = true := by rw [bne_iff_ne]; omega
    have b2 : (l.length != m.length) = true := by rw [bne_iff_ne]; omega
    have HL := Lib.hid hlen
    clear hlen
    go_enter Try.func14, Try.ntmps14
    go_wp2
    go_ret
    refine ⟨ret_bool ?_, Quiet.refl w⟩
    symm
    apply decide_eq_false
    intro h
    exact HL.out (by rw [h])

set_option maxHeartbeats 1000000 in
theorem refHeld_calls (A : Option Addr) (c : Nat) (l : List UInt8) (w : World) (hl : l.length ≤ 1099511627776) (hr : Reads w A l) :
    Calls Try.prog 21 #[.slice A l.length c] w fun e w' => e = .returned (.int .i64 (heldOf l : Int)) ∧ w = w' := by
  have HR := Lib.hid hr
  clear hr
  go_enter Try.func21, Try.ntmps21
  go_wp2
  go_loop [3] (fun i => ∃ k : Nat, k ≤ l.length ∧ i = .int .i64 ((k : Int) - 1) ∧ ∀ j, k ≤ j → j < l.length → l.getD j 1 ≠ 0) (fun i => (intOf i + 1).toNat)
  case atStart => exact ⟨l.length, Nat.le_refl _, by simp, fun j h1 h2 => by omega⟩
  case round =>
    obtain ⟨k, hk, rfl, hz⟩ := hrel
    have HZ := Lib.hid hz
    clear hz
    by_cases hpos : 0 < k
    · obtain ⟨q, rfl⟩ : ∃ q, k = q + 1 := ⟨k - 1, by omega⟩
      obtain ⟨ad, rfl, hc⟩ := HR.out.out q (by omega)
      rw [show (((q + 1 : Nat) : Int) - 1) = (q : Int) by omega]
      by_cases h0 : l[q]'(by omega) = 0
      · have hq : ((((l[q]'(by omega)).toNat : Nat) : Int) == 0) = true := by rw [h0]; rfl
        have hh := held_last l q (by omega) h0 (fun j h1 h2 => HZ.out j (by omega) h2)
        have H0 := Lib.hid h0
        clear h0
        by_cases hbig : l.length - 1 - q > 2200
        · rw [if_pos hbig] at hh
          have HH := Lib.hid hh
          have hbig2 : 2200 < (l.length : Int) - 1 - (q : Int) := by omega
          clear hh hbig
          go_wp2
          go_ret
          exact ⟨by rw [HH.out]; rfl, rfl⟩
        · rw [if_neg hbig] at hh
          have HH := Lib.hid hh
          have hbig2 : (l.length : Int) - 1 - (q : Int) ≤ 2200 := by omega
          clear hh hbig
          go_wp2
          go_ret
          exact ⟨ret_int (by rw [HH.out]; omega), rfl⟩
      · have hq : ((((l[q]'(by omega)).toNat : Nat) : Int) == 0) = false := by
          rw [beq_eq_false_iff_ne]; intro e; apply h0; exact UInt8.toNat_inj.1 (by simpa using e)
        have hz2 : ∀ j, q ≤ j → j < l.length → l.getD j 1 ≠ 0 := by
          intro j h1 h2
          by_cases e : j = q
          · subst e; rw [getD_at l j h2]; exact h0
          · exact HZ.out j (by omega) h2
        have HZ2 := Lib.hid hz2
        clear hz2 h0
        go_wp2
        go_round
        case rel => exact ⟨q, by omega, by go_num, HZ2.out⟩
        case measure => simp [intOf]
    · obtain rfl : k = 0 := by omega
      have hh := held_none l (fun j h => HZ.out j (by omega) h)
      have HH := Lib.hid hh
      clear hh
      go_wp2
      go_ret
      exact ⟨by rw [HH.out]; rfl, rfl⟩

def RunsRel (w : World) (l : List UInt8) (out last i : Value) (wr : World) : Prop :=
  ∃ (k : Nat) (la : Int), k ≤ l.length ∧ i = .int .i64 (k : Int) ∧ last = .int .i64 la ∧ RefInv l k la ∧ OwnRuns wr (fun j => w.heap.size ≤ j) out (fresh.feed (l.take k)).2 ∧ Below w.heap.size w wr
def RunsPost (w : World) (l : List UInt8) (e : Ending) (wr : World) : Prop :=
  ∃ out, e = .returned out ∧ OwnRuns wr (fun j => w.heap.size ≤ j) out (runsOf l) ∧ Below w.heap.size w wr

set_option maxHeartbeats 1000000 in
theorem refRuns_calls (A : Option Addr) (c : Nat) (l : List UInt8) (w : World) (hl : l.length ≤ 1099511627776) (hc : l.length ≤ c) (hr : Reads w A l) :
    Calls Try.prog 15 #[.slice A l.length c] w (RunsPost w l) := by
  have HR := Lib.hid hr
  clear hr
  go_enter Try.func15, Try.ntmps15
  go_wp2
  go_loopw [3, 4, 9] (fun out last i wr => RunsRel w l out last i wr) (fun _ _ i _ => l.length - (intOf i).toNat)
  case atStart => exact ⟨0, -1, Nat.zero_le _, rfl, rfl, RefInv.start l, OwnRuns.nil _ _, Below.refl _ _⟩
  case round =>
    obtain ⟨k, la, hk, rfl, rfl, hinv, hrs, hbel⟩ := hrel
    have HI := Lib.hid hinv
    have HO := Lib.hid hrs
    have HB := Lib.hid hbel
    clear hinv hrs hbel
    by_cases hlt : k < l.length
    · obtain ⟨ad, rfl, hcell⟩ := (HR.out.below HB.out).out k hlt
      by_cases h0 : l[k]'hlt = 0
      · have hq : ((((l[k]'hlt).toNat : Nat) : Int) != 0) = false := by rw [h0]; rfl
        obtain ⟨hinv2, hcase⟩ := HI.out.zero hlt h0
        have HI2 := Lib.hid hinv2
        clear hinv2 h0
        rcases hcase with ⟨rfl, hrs2⟩ | ⟨L, rfl, hL, hrs2⟩
        · have HRS := Lib.hid hrs2
          clear hrs2
          go_wp2
          exact ⟨⟨k + 1, k, by omega, by go_num, rfl, HI2.out, by rw [HRS.out]; exact HO.out, HB.out⟩, by simp [intOf]; omega⟩
        · by_cases hcond : 1 < k - L ∧ k - L - 1 ≤ 2200
          · rw [if_pos hcond] at hrs2
            have HRS := Lib.hid hrs2
            have q1 : 1 < (k : Int) - (L : Int) := by omega
            have q2 : (k : Int) - (L : Int) - 1 ≤ 2200 := by omega
            have q3 : ¬ c = L + 1 := by omega
            have hsl : k - (L + 1) = ((l.take k).drop (L + 1)).length := by simp; omega
            have hsr : Reads wr (some ⟨ad.block, ad.off + (L + 1), none⟩) ((l.take k).drop (L + 1)) := ((HR.out.below HB.out).take k).drop (L + 1) (addr_from ad (L + 1) (by omega))
            have hsz : ((l.take k).drop (L + 1)).length ≤ 1099511627776 := by omega
            generalize (l.take k).drop (L + 1) = seg at *
            have HSR := Lib.hid hsr
            obtain ⟨cells, hrow, hrF, hrel⟩ := HO.out
            have hcnt : (fresh.feed (l.take k)).2.length ≤ 1099511627776 := by
              have h1 := feed_count fresh (l.take k)
              have h2 : (l.take k).length ≤ k := List.length_take_le _ _
              omega
            have HROW := Lib.hid hrow
            have HRF := Lib.hid hrF
            have HREL := Lib.hid hrel
            clear hrs2 hcond hsr hrow hrF hrel
            go_wp2_with (at_builtin; refine wpList_append_bytes (w0 := w) w.heap.size rfl _ _ 28 5 rfl Try.underlying28 info_u8 _ [] seg rfl (OwnB.nil 5 _ _) (some ⟨ad.block, ad.off + (L + 1), none⟩) (c - (L + 1)) rfl (by exact HSR.out) (by simp; omega) (by exact HB.out.size) (by exact HB.out) ?_)
            intro v1 w1 (hown : OwnB 5 w1 w.heap.size v1 seg) hb1 hg1 _
            have T1 : Touch (fun _ => False) wr w1 := Touch.of_grown hg1 fun j h => (nil_block j h).elim
            obtain ⟨A1, c1, rfl, _⟩ := hown.form
            have hrow1 := T1.own HROW.out (fun _ _ h => h)
            have hv1b := fun j => own_base hown j
            have HOW := Lib.hid hown
            have HB1 := Lib.hid hb1
            have HROW1 := Lib.hid hrow1
            have HT1 := Lib.hid T1
            clear hown hb1 hg1 T1 hrow1
            go_wp2_with (at_builtin; refine wpList_append_row (w0 := w) w.heap.size rfl _ _ 30 42 (.agg #[.int .i64 0, .slice none 0 0]) 2 32 rfl Try.underlying30 info_run rfl (by decide) _ (fresh.feed (l.take k)).2.length cells rfl ?b0 _ 1 1 [.int .i64 (L : Int), .slice A1 seg.length c1] rfl rfl ?b1 ?b2 ?b3 ?b4 ?b5 ?b6 ?_)
            case b0 => exact own_raise (HROW1.out.alloc _) _ HRF.out
            case b1 => exact RowAt.new_at _ 42 (0, 0) #[.int .i64 (L : Int), .slice A1 seg.length c1] _ rfl _ (by simp)
            case b2 => intro u hu; simp at hu; rcases hu with rfl | rfl <;> rfl
            case b3 => simp only [maxLen]; omega
            case b4 => omega
            case b5 => have := HB1.out.size; simp; omega
            case b6 => exact HB1.out.alloc HB1.out.size _
            intro v2 w2 hrow2 hb2 hgr hat
            have T2 : Touch (fun j => u3.ownBlock = some j) w1 w2 := ((Touch.refl _ w1).alloc _).grown hgr (fun i h _ => h)
            have hel1 : ∀ i (hi : i < (fresh.feed (l.take k)).2.length), ∃ bv, cells[2 * i]? = some (.int .i64 (((fresh.feed (l.take k)).2[i]'hi).1 : Int)) ∧ cells[2 * i + 1]? = some bv ∧ OwnB 5 w1 0 bv ((fresh.feed (l.take k)).2[i]'hi).2 ∧ ∀ k, bv.ownBlock = some k → w.heap.size ≤ k := by
              intro i hi
              obtain ⟨bv, h1, h2, h3, h4⟩ := HREL.out i hi
              exact ⟨bv, h1, h2, HT1.out.ownB h3 (fun _ _ h => h), h4⟩
            have how2 : OwnB 5 w2 0 (.slice A1 seg.length c1) seg := T2.ownB (own_lower HOW.out 0 (Nat.zero_le _)) (fun j hj e => own_type_ne HOW.out HROW1.out (by decide) j hj e)
            have hnew : OwnRuns w2 (fun j => w.heap.size ≤ j) v2 ((fresh.feed (l.take k)).2 ++ [(L, seg)]) :=
              OwnRuns.snoc HROW1.out hel1 (own_lower hrow2 0 (Nat.zero_le _)) T2 how2 (fun _ h => h) (fun j hj => (hrow2.lt j hj).1) (fun j hj => (HOW.out.lt j hj).1)
            have HNEW := Lib.hid hnew
            have HB2 := Lib.hid hb2
            clear hrow2 hb2 hgr hat T2 hel1 how2 hnew
            go_wp2
            exact ⟨⟨k + 1, k, by omega, by go_num, rfl, HI2.out, by rw [HRS.out]; exact HNEW.out, HB2.out⟩, by simp [intOf]; omega⟩
          · rw [if_neg hcond] at hrs2
            simp only [List.append_nil] at hrs2
            have HRS := Lib.hid hrs2
            have hfin : RunsRel w l u3 (.int .i64 (k : Int)) (.int .i64 ((k : Int) + 1)) wr := ⟨k + 1, k, by omega, by go_num, rfl, HI2.out, by rw [HRS.out]; exact HO.out, HB.out⟩
            have HFIN := Lib.hid hfin
            by_cases q1 : 1 < (k : Int) - (L : Int)
            · have q2 : ¬ (k : Int) - (L : Int) - 1 ≤ 2200 := by omega
              clear hrs2 hcond hfin
              go_wp2
              exact ⟨HFIN.out, by simp [intOf]; omega⟩
            · clear hrs2 hcond hfin
              go_wp2
              exact ⟨HFIN.out, by simp [intOf]; omega⟩
      · have hq : ((((l[k]'hlt).toNat : Nat) : Int) != 0) = true := by
          rw [bne_iff_ne]; intro e; apply h0; exact UInt8.toNat_inj.1 (by simpa using e)
        obtain ⟨hinv2, hrs2⟩ := HI.out.other hlt h0
        have HI2 := Lib.hid hinv2
        have HRS := Lib.hid hrs2
        clear hinv2 hrs2 h0
        go_wp2
        exact ⟨⟨k + 1, la, by omega, by go_num, rfl, HI2.out, by rw [HRS.out]; exact HO.out, HB.out⟩, by simp [intOf]; omega⟩
    · have hke : k = l.length := by omega
      subst hke
      have HP := Lib.hid (show OwnRuns wr (fun j => w.heap.size ≤ j) _ (runsOf l) from by have := HO.out; rw [List.take_length] at this; exact this)
      clear HO
      go_wp2
      go_ret
      exact ⟨_, rfl, HP.out, HB.out⟩
end Go.Proofs.Ytnfefjlplipeiaa
