/-
  The walk of the law's helper same. Condition: the slices read as lists of bytes. The walk of FrameBack. Condition: the frame and the bytes read; the tables are as laid. What the second form's bound gives: the bulk of a list of data is at least its length. No condition. How what lies in a struct's field reads: a slice of bytes. No condition. How an argument that is a frame reads: as a frame, where it holds no more than so many values and letters. No condition. How an argument that is a frame reads, part two: values, columns, frames. No condition. How an argument that is a frame reads, part three: the frame. No condition.
-/
import Derived.Test.YtbhhhkilljnkfaaDoorG1
import Derived.Test.YtbhhhkilljnkfaaDoorG10
import Derived.Test.YtbhhhkilljnkfaaDoorRows
import Derived.Lib.SmallJoins
import Derived.Test.YtbhhhkilljnkfaaDoorG7
import Derived.Deep.Slices
/- The walk of the law's helper same. Condition: the slices read as lists of bytes. -/
namespace Go.Proofs.YtbhhhkilljnkfaaDoor
open Go.RowKit Go.BigFrame
set_option linter.unusedVariables false
set_option linter.unusedSimpArgs false

set_option maxHeartbeats 1000000 in
theorem same12_calls (A B : Option Addr) (c d : Nat) (l m : List UInt8) (w : World) (hl : l.length ≤ 9223372036854775807) (hm : m.length ≤ 9223372036854775807) (hr : Reads w A l) (hr2 : Reads w B m) :
    Calls Tryd.prog 13 #[.slice A l.length c, .slice B m.length d] w fun e w' => e = .returned (.bool (decide (l = m))) ∧ Quiet w w' := by
  have HR := Lib.hid hr
  have HR2 := Lib.hid hr2
  clear hr hr2
  by_cases hlen : l.length = m.length
  · have b1 : ((l.length : Int) != (m.length : Int)) = false := by simp [hlen]
    have b2 : (l.length != m.length) = false := by simp [hlen]
    have HL := Lib.hid hlen
    clear hlen
    go_enter Tryd.func13, Tryd.ntmps13
    go_wp2
    go_loopw [5] (fun i wr => ∃ k : Nat, k ≤ l.length ∧ i = .int .i64 k ∧ l.take k = m.take k ∧ Quiet w wr) (fun i _ => l.length - (intOf i).toNat)
    case atStart => exact ⟨0, Nat.zero_le _, rfl, rfl, Quiet.refl w⟩
    case round =>
      obtain ⟨k, hk, rfl, htk, n, rfl⟩ := hrel
      have HK := Lib.hid htk
      clear htk b1 b2
      by_cases hlt : k < l.length
      · have hlt2 : k < m.length := by have := HL.out; omega
        obtain ⟨a1, rfl, x1⟩ := HR.out.out k hlt
        obtain ⟨a2, rfl, x2⟩ := HR2.out.out k hlt2
        have i1 : (0 : Int) ≤ (k : Int) := Int.natCast_nonneg _
        have i2 : (k : Int) < (l.length : Int) := by omega
        have i3 : (k : Int) < (m.length : Int) := by omega
        by_cases he : l[k]'hlt = m[k]'hlt2
        · have hnx : l.take (k + 1) = m.take (k + 1) := by
            rw [List.take_succ_eq_append_getElem hlt, List.take_succ_eq_append_getElem hlt2, HK.out, he]
          have hq : ((((l[k]'hlt).toNat : Nat) : Int) != (((m[k]'hlt2).toNat : Nat) : Int)) = false := by rw [he]; simp
          have HN := Lib.hid hnx
          have HE := Lib.hid he
          clear he hnx
          go_wp2
          go_quiet (fail)
          go_wp2
          exact ⟨⟨k + 1, by omega, by go_num, HN.out, ⟨_, rfl⟩⟩, by simp [intOf]; omega⟩
        · have hq : ((((l[k]'hlt).toNat : Nat) : Int) != (((m[k]'hlt2).toNat : Nat) : Int)) = true := by
            rw [bne_iff_ne]; intro e; exact he (UInt8.toNat_inj.1 (by omega))
          have HE := Lib.hid he
          clear he
          go_wp2
          go_quiet (fail)
          go_wp2
          go_ret
          refine ⟨ret_bool ?_, ⟨_, by rw [World.drewN_drewN]⟩⟩
          symm
          apply decide_eq_false
          intro h
          subst h
          exact HE.out rfl
      · go_wp2
        go_ret
        refine ⟨ret_bool ?_, ⟨_, rfl⟩⟩
        symm
        apply decide_eq_true
        have := HK.out
        rwa [List.take_of_length_le (by omega), List.take_of_length_le (by have := HL.out; omega)] at this
  · have b1 : ((l.length : Int) != (m.length : Int)) = true := by rw [bne_iff_ne]; omega
    have b2 : (l.length != m.length) = true := by rw [bne_iff_ne]; omega
    have HL := Lib.hid hlen
    clear hlen
    go_enter Tryd.func13, Tryd.ntmps13
    go_wp2
    go_ret
    refine ⟨ret_bool ?_, Quiet.refl w⟩
    symm
    apply decide_eq_false
    intro h
    exact HL.out (by rw [h])

end Go.Proofs.YtbhhhkilljnkfaaDoor
/- The walk of FrameBack. Condition: the frame and the bytes read; the tables are as laid. -/
namespace Go.Proofs.YtbhhhkilljnkfaaDoor
open Go.RowKit Go.BigFrame
set_option linter.unusedVariables false
set_option linter.unusedSimpArgs false

theorem encF_nz {f : Fr} {e : Int} (h : encF f = .error e) : e ≠ 0 := by
  unfold encF at h
  split at h
  · unfold encFin at h
    split at h
    · injection h with h; omega
    · cases h
  · rename_i h0
    injection h with h
    rw [← h]
    exact h0
theorem takeF_nz {l : List UInt8} {e : Int} (h : takeF l = .error e) : e ≠ 0 := by
  cases l with
  | nil => injection h with h; omega
  | cons b t =>
    rw [takeF] at h
    split at h
    · unfold takeS at h
      simp only at h
      split at h
      · injection h with h; omega
      · split at h
        · rename_i hd
          injection h with h
          subst h
          exact decodeS_nz hd
        · cases h
    split at h
    · unfold takeD at h
      simp only at h
      split at h
      · injection h with h; omega
      · cases h
    split at h
    · unfold takeI at h
      simp only at h
      split at h
      · injection h with h; omega
      · cases h
    · injection h with h; omega
theorem decF_nz {l : List UInt8} {e : Int} (h : decF l = .error e) : e ≠ 0 := by
  unfold decF at h
  split at h
  · injection h with h; omega
  split at h
  · rename_i h2
    injection h with h
    rw [← h]
    exact h2
  split at h
  · injection h with h; omega
  split at h
  · injection h with h; omega
  · exact takeF_nz h

set_option maxRecDepth 20000 in
set_option maxHeartbeats 8000000 in
theorem frBack_calls (A B E : Option Addr) (c d k : Nat) (f : Fr) (Ar : Option Addr) (cr : Nat) (run : List UInt8) (w : World) (hf : FrS w (fun b => b < w.heap.size) A B E f) (hw : f.wf)
    (hr : Reads w Ar run) (hrl : run.length ≤ 140737488355328) (hrc : run.length ≤ cr) (htb : Tabs w) (ht : Table w) :
    Calls Tryd.prog 5 #[.agg (frCells A c B d E k f), .slice Ar run.length cr] w fun e w' => e = .returned (.bool true) ∧ Keeps w w' := by
  obtain ⟨W0, hW0⟩ : ∃ W0, W0 = w.alloc (.cells (frCells A c B d E k f) 33) := ⟨_, rfl⟩
  have hb0 : W0.heap[w.heap.size]? = some (.cells (frCells A c B d E k f) 33) := by rw [hW0]; exact obj_new _ _
  have hk0 : Keeps w W0 := by rw [hW0]; exact (Keeps.refl w).alloc _
  have hen := encode_calls A B E c d k f W0 ((hf.later hk0.below).mono fun b hb _ => hb) hw (htb.below hk0.below) (ht.later hk0.below)
  have HF := Lib.hid hf
  have HW := Lib.hid hw
  have HRUN := Lib.hid hr
  have HTB := Lib.hid htb
  have HT := Lib.hid ht
  have HB0 := Lib.hid hb0
  have HK0 := Lib.hid hk0
  clear hf hw hr htb ht hb0 hk0
  cases hq0 : encF f with
  | error er =>
    rw [hq0] at hen
    have hnz : er ≠ 0 := encF_nz hq0
    have q1 : (er == 0) = false := by simpa using hnz
    have HEN := Lib.hid hen
    clear hen hq0 hnz
    unfold frCells at *
    generalize hRL : run.length = RL at hrl hrc ⊢
    go_enter Tryd.func5, Tryd.ntmps5
    go_wp2_with fail
    rw [← hW0]
    clear hW0
    refine HEN.out.mono ?_
    rintro e w1 ⟨rfl, hk1⟩
    have HK1 := Lib.hid (HK0.out.trans hk1)
    clear hk1 HEN
    subst hRL
    have hd := decode_calls Ar cr run w1 (HRUN.out.below HK1.out.below) hrl hrc (HTB.out.below HK1.out.below) (HT.out.later HK1.out.below)
    have HD := Lib.hid hd
    clear hd
    generalize hrL : run.length = RL at hrl hrc HD ⊢
    have HRL := Lib.hid hrL
    clear hrL
    go_wp2_with fail
    refine HD.out.mono ?_
    clear HD
    intro e wa ha
    cases hq : decF run with
    | error er =>
      rw [hq] at ha
      obtain ⟨rfl, hka⟩ := ha
      have q0 : (er != 0) = true := by simpa using decF_nz hq
      obtain ⟨Wb, hWb⟩ : ∃ Wb, Wb = wa.alloc (.cells zero11 33) := ⟨_, rfl⟩
      have hb : Wb.heap[wa.heap.size]? = some (.cells zero11 33) := by rw [hWb]; exact obj_new _ _
      have hkb : Keeps wa Wb := by rw [hWb]; exact (Keeps.refl wa).alloc _
      have hkw := HK1.out.trans (hka.trans hkb)
      have hlv := live_calls Wb (HTB.out.below hkw.below) (HT.out.later hkw.below)
      have HB := Lib.hid hb
      have HKW := Lib.hid hkw
      have HLV := Lib.hid hlv
      clear hb hkb hkw hlv hka hq
      rw [show frCells none 0 none 0 none 0 frZero = #[.int .i64 0, .int .i64 0, .slice none 0 0, .int .i64 0, .int .i64 0, .int .i64 0, .slice none 0 0, .int .i64 0, .int .i64 0, .int .i64 0, .slice none 0 0] from rfl]
      go_wp2_with fail
      rw [← hWb]
      clear hWb
      refine HLV.out.mono ?_
      rintro e wc ⟨rfl, hkc⟩
      have hbc : wc.heap[wa.heap.size]? = some (.cells zero11 33) := (hkc.below.block _ (obj_lt HB.out)).trans HB.out
      obtain ⟨⟨a0, a1, a2, a3, a4, a5, a6, a7, a8, a9, a10⟩, _⟩ := cells11 (x0 := .int .i64 0) (x1 := .int .i64 0) (x2 := .slice none 0 0) (x3 := .int .i64 0) (x4 := .int .i64 0) (x5 := .int .i64 0) (x6 := .slice none 0 0) (x7 := .int .i64 0) (x8 := .int .i64 0) (x9 := .int .i64 0) (x10 := .slice none 0 0) hbc
      have hpl := plain_calls none 0 none 0 none 0 frZero frZero_plain wc
      have HPL := Lib.hid hpl
      have HBC := Lib.hid hbc
      have HKC := Lib.hid (HKW.out.trans hkc)
      clear hkc hbc hpl HLV
      go_wp2_with fail
      refine HPL.out.mono ?_
      rintro e wd ⟨rfl, hkd⟩
      have hbd : wd.heap[wa.heap.size]? = some (.cells zero11 33) := (hkd.below.block _ (obj_lt HBC.out)).trans HBC.out
      obtain ⟨⟨g0, g1, g2, g3, g4, g5, g6, g7, g8, g9, g10⟩, _⟩ := cells11 (x0 := .int .i64 0) (x1 := .int .i64 0) (x2 := .slice none 0 0) (x3 := .int .i64 0) (x4 := .int .i64 0) (x5 := .int .i64 0) (x6 := .slice none 0 0) (x7 := .int .i64 0) (x8 := .int .i64 0) (x9 := .int .i64 0) (x10 := .slice none 0 0) hbd
      have HKD := Lib.hid (HKC.out.trans hkd)
      clear hkd hbd HPL
      go_wp2
      go_ret
      exact ⟨rfl, HKD.out⟩
    | ok x =>
      rw [hq] at ha
      obtain ⟨A3, c3, B3, d3, E3, k3, rfl, hfo, hka⟩ := ha
      obtain ⟨_, hxw, _, _⟩ := decF_ok hq
      have hxe := dec_back hq
      obtain ⟨Wb, hWb⟩ : ∃ Wb, Wb = wa.alloc (.cells (frCells A3 c3 B3 d3 E3 k3 x) 33) := ⟨_, rfl⟩
      have hb : Wb.heap[wa.heap.size]? = some (.cells (frCells A3 c3 B3 d3 E3 k3 x) 33) := by rw [hWb]; exact obj_new _ _
      have hkb : Keeps wa Wb := by rw [hWb]; exact (Keeps.refl wa).alloc _
      have hkw := HK1.out.trans (hka.trans hkb)
      have hfs := ((hfo.below hkb.below).toS (dec_len hq).1 (dec_len hq).2)
      have hen := encode_calls A3 B3 E3 c3 d3 k3 x Wb (hfs.mono fun b hb _ => hb) hxw (HTB.out.below hkw.below) (HT.out.later hkw.below)
      rw [hxe] at hen
      obtain ⟨⟨b0, b1, b2, b3, b4, b5, b6, b7, b8, b9, b10⟩, _⟩ := cells11 (x0 := .int .i64 x.kind) (x1 := .int .i64 x.number) (x2 := .slice A3 x.cols.length c3) (x3 := .int .i64 x.seq) (x4 := .int .i64 x.first) (x5 := .int .i64 x.rows) (x6 := .slice B3 x.block.length d3) (x7 := .int .i64 x.spot) (x8 := .int .i64 x.frames) (x9 := .int .i64 x.irows) (x10 := .slice E3 x.ents.length k3) hb
      have HKW := Lib.hid hkw
      have HEN := Lib.hid hen
      clear hb hkb hkw hen hka hfo hfs hxw hxe hq
      unfold frCells at *
      go_wp2_with fail
      rw [← hWb]
      clear hWb b0 b1 b2 b3 b4 b5 b6 b7 b8 b9 b10
      refine HEN.out.mono ?_
      rintro e wc ⟨vc, rfl, hoc, hkc⟩
      obtain ⟨Ae, ce, rfl, hlce, hre, hce, _⟩ := hoc.form
      have hkw2 := HKW.out.trans hkc
      have hlv := live_calls wc (HTB.out.below hkw2.below) (HT.out.later hkw2.below)
      obtain ⟨LC, hLC⟩ : ∃ LC, LC = ((0 : UInt8) :: (run ++ [0])).length := ⟨_, rfl⟩
      have hLC2 : LC = RL + 2 := by rw [hLC, ← HRL.out]; simp
      rw [← hLC] at hlce ⊢
      have HRE := Lib.hid hre
      have HKW2 := Lib.hid hkw2
      have HLV := Lib.hid hlv
      have HLC2 := Lib.hid hLC2
      clear hoc hkc hre hkw2 hlv HEN HKW hLC hLC2
      go_wp2_with fail
      refine HLV.out.mono ?_
      rintro e wd ⟨rfl, hkd⟩
      have hre := HRE.out.below hkd.below
      obtain ⟨ad, rfl, _⟩ := hre.out 0 (by simp)
      have hkd2 := HKW2.out.trans hkd
      obtain ⟨m, hm⟩ : ∃ m, m = RL + 1 := ⟨_, rfl⟩
      have hLC2 := HLC2.out
      have hre2 : Reads wd (some ⟨ad.block, ad.off + 1, none⟩) run := by
        have h1 := (hre.drop 1 (ad' := ⟨ad.block, ad.off + 1, none⟩) (fun i => by rw [addr_add_mk, addr_add_pos ad (1 + i) (by omega)]; congr 1; omega)).take run.length
        have h2 : (((0 : UInt8) :: (run ++ [0])).drop 1).take run.length = run := by simp
        rwa [h2] at h1
      have hsm : Calls Tryd.prog 13 #[.slice (some ⟨ad.block, ad.off + 1, none⟩) (m - 1) (ce - 1), .slice Ar RL cr] wd fun e w' => e = .returned (.bool true) ∧ Quiet wd w' := by
        have h := same12_calls (some ⟨ad.block, ad.off + 1, none⟩) Ar (ce - 1) cr run run wd (by rw [HRL.out]; omega) (by rw [HRL.out]; omega) hre2 (HRUN.out.below hkd2.below)
        rw [HRL.out] at h
        rw [show m - 1 = RL by omega]
        simpa using h
      have q2 : ((LC : Int) == (RL : Int) + 2) = true := by rw [beq_iff_eq]; omega
      have hw1 : IntKind.i64.wrap ((LC : Int) - 1) = (m : Int) := by rw [IntWalk.i64_in _ (by omega)]; omega
      have hce1 : ¬ ce = 1 := by omega
      have hm1 : 1 ≤ m := by omega
      have hmL : m ≤ LC := by omega
      have hmc : m ≤ ce := by omega
      have HSM := Lib.hid hsm
      have HKD := Lib.hid hkd2
      clear hre hre2 hkd hkd2 hsm hm hLC2 HLV HKW2 HRE
      go_wp2_with fail
      refine HSM.out.mono ?_
      rintro e we ⟨rfl, hqe⟩
      have HKE := Lib.hid (HKD.out.quiet hqe)
      clear hqe HSM HKD
      go_wp2
      go_ret
      exact ⟨rfl, HKE.out⟩
  | ok l =>
    rw [hq0] at hen
    obtain ⟨s, hls, hs5, hs22, hs0, y, hd, hsame⟩ := enc_back HW.out hq0
    have HEN := Lib.hid hen
    have HLS := Lib.hid hls
    have HS0 := Lib.hid hs0
    have HDE := Lib.hid hd
    have HSA := Lib.hid hsame
    have hll : l.length = s.length + 2 := by rw [hls]; simp
    obtain ⟨L, hL⟩ : ∃ L, L = l.length := ⟨_, rfl⟩
    obtain ⟨m, hm⟩ : ∃ m, m = s.length + 1 := ⟨_, rfl⟩
    have hL7 : 7 ≤ L := by omega
    have hL22 : L ≤ 2202 := by omega
    have hmL : m < L := by omega
    have hm1 : 1 ≤ m := by omega
    have hLm : L = m + 1 := by omega
    have hw1 : IntKind.i64.wrap ((L : Int) - 1) = (m : Int) := by rw [IntWalk.i64_in _ (by omega)]; omega
    have HL := Lib.hid hL
    have HLM := Lib.hid hLm
    have HM := Lib.hid hm
    have HLL := Lib.hid hll
    clear hen hls hs0 hd hsame hq0 hL hm hll hs5 hs22 hLm
    unfold frCells at *
    generalize hRL : run.length = RL at hrl hrc ⊢
    go_enter Tryd.func5, Tryd.ntmps5
    go_wp2_with fail
    rw [← hW0]
    clear hW0
    refine HEN.out.mono ?_
    rintro e w1 ⟨v1, rfl, ho1, hk1⟩
    obtain ⟨A1, c1, rfl, hlc1, hr1, hcm1, _⟩ := ho1.form
    obtain ⟨ad, rfl, e0⟩ := hr1.out 0 (by rw [HLL.out]; omega)
    obtain ⟨ad', e', e1⟩ := hr1.out m (by rw [HLL.out, HM.out]; omega)
    cases e'
    have g0 : (l[0]'(by rw [HLL.out]; omega)) = 0 := by simp only [HLS.out, List.getElem_cons_zero]
    have g1 : (l[m]'(by rw [HLL.out, HM.out]; omega)) = 0 := by simp [HLS.out, HM.out]
    rw [g0, addr_add_zero] at e0
    rw [g1] at e1
    have e0 : w1.cell? ad = some (.int .u8 0) := e0
    have e1 : w1.cell? (ad.add m) = some (.int .u8 0) := e1
    rw [← HL.out] at hlc1 ⊢
    have HR1 := Lib.hid hr1
    have HK1 := Lib.hid (HK0.out.trans hk1)
    have HB1 := Lib.hid ((hk1.below.block _ (obj_lt HB0.out)).trans HB0.out)
    clear g0 g1 ho1 hr1 hk1 HEN
    have hc1n : ¬ c1 = 1 := by omega
    go_wp2_with fail
    go_loopw [8] (fun i wr => ∃ j : Nat, 1 ≤ j ∧ j ≤ m ∧ i = .int .i64 (j : Int) ∧ wr = w1) (fun i _ => m - (intOf i).toNat)
    case atStart => exact ⟨1, by omega, hm1, rfl, rfl⟩
    case round =>
      obtain ⟨j, hj1, hjm, rfl, rfl⟩ := hrel
      by_cases hlt : j < m
      · have hjl : j < l.length := by rw [← HL.out]; omega
        obtain ⟨ad', e', hc⟩ := HR1.out.out j hjl
        cases e'
        have hz : ((((l[j]'hjl).toNat : Nat) : Int) == 0) = false := by
          rw [beq_eq_false_iff_ne]
          intro e
          apply HS0.out
          obtain ⟨j', rfl⟩ : ∃ j', j = j' + 1 := ⟨j - 1, by omega⟩
          have hjs : j' < s.length := by have := HM.out; omega
          have h1 : (l[j' + 1]'hjl) = s[j']'hjs := by
            simp only [HLS.out, List.getElem_cons_succ]
            rw [List.getElem_append_left hjs]
          rw [h1] at e
          rw [show (0 : UInt8) = s[j']'hjs from (UInt8.toNat_inj.1 (by simpa using e)).symm]
          exact List.getElem_mem hjs
        generalize (l[j]'hjl).toNat = xb at hc hz
        have hjL : j < L := by omega
        clear hjl
        go_wp2
        exact ⟨⟨j + 1, by omega, by omega, by go_num, trivial⟩, by simp [intOf]; omega⟩
      · have hrs : Reads wr (some ⟨ad.block, ad.off + 1, none⟩) s := by
          have h1 := (HR1.out.drop 1 (ad' := ⟨ad.block, ad.off + 1, none⟩) (fun i => by rw [addr_add_mk, addr_add_pos ad (1 + i) (by omega)]; congr 1; omega)).take s.length
          have h2 : (l.drop 1).take s.length = s := by rw [HLS.out]; simp
          rwa [h2] at h1
        have hdc := decode_calls (some ⟨ad.block, ad.off + 1, none⟩) (c1 - 1) s wr hrs (by have := HM.out; omega) (by have := HM.out; omega) (HTB.out.below HK1.out.below) (HT.out.later HK1.out.below)
        rw [HDE.out, show s.length = m - 1 by have := HM.out; omega] at hdc
        have HDC := Lib.hid hdc
        have hmc : m ≤ c1 := by omega
        have hmL' : m ≤ L := by omega
        clear hdc hrs
        go_wp2_with fail
        refine HDC.out.mono ?_
        rintro e w2 ⟨A2, c2, B2, d2, E2, k2, rfl, hf2, hk2⟩
        obtain ⟨W3, hW3⟩ : ∃ W3, W3 = w2.alloc (.cells (frCells A2 c2 B2 d2 E2 k2 y) 33) := ⟨_, rfl⟩
        have hb3 : W3.heap[w2.heap.size]? = some (.cells (frCells A2 c2 B2 d2 E2 k2 y) 33) := by rw [hW3]; exact obj_new _ _
        have h23 : Keeps w2 W3 := by rw [hW3]; exact (Keeps.refl w2).alloc _
        have hfy := (hf2.below h23.below).toS (dec_len HDE.out).1 (dec_len HDE.out).2
        have hk13 := hk2.trans h23
        have hbf := (hk2.below.block _ (obj_lt HB1.out)).trans HB1.out
        have uw := obj_lt hbf
        have hk03 := HK1.out.trans hk13
        have hsm := frSame_calls A2 B2 E2 A B E c2 d2 k2 c d k _ _ y f W3 hfy (HF.out.later hk03.below)
        rw [HSA.out] at hsm
        obtain ⟨⟨p0, p1, p2, p3, p4, p5, p6, p7, p8, p9, p10⟩, _⟩ := cells11 (x0 := .int .i64 y.kind) (x1 := .int .i64 y.number) (x2 := .slice A2 y.cols.length c2) (x3 := .int .i64 y.seq) (x4 := .int .i64 y.first) (x5 := .int .i64 y.rows) (x6 := .slice B2 y.block.length d2) (x7 := .int .i64 y.spot) (x8 := .int .i64 y.frames) (x9 := .int .i64 y.irows) (x10 := .slice E2 y.ents.length k2) hb3
        obtain ⟨⟨q0, q1, q2, q3, q4, q5, q6, q7, q8, q9, q10⟩, _⟩ := cells11 (x0 := .int .i64 f.kind) (x1 := .int .i64 f.number) (x2 := .slice A f.cols.length c) (x3 := .int .i64 f.seq) (x4 := .int .i64 f.first) (x5 := .int .i64 f.rows) (x6 := .slice B f.block.length d) (x7 := .int .i64 f.spot) (x8 := .int .i64 f.frames) (x9 := .int .i64 f.irows) (x10 := .slice E f.ents.length k) hbf
        have HSM := Lib.hid hsm
        have HK3 := Lib.hid hk03
        clear hfy hk13 hk03 hsm hf2 hk2 h23 hb3 hbf HDC
        unfold frCells at *
        go_wp2_with fail
        rw [← hW3]
        clear hW3
        refine HSM.out.mono ?_
        rintro e w4 ⟨rfl, hk4⟩
        have HK4 := Lib.hid (HK3.out.trans hk4)
        clear hk4 HSM HK3
        subst hRL
        have hd := decode_calls Ar cr run w4 (HRUN.out.below HK4.out.below) hrl hrc (HTB.out.below HK4.out.below) (HT.out.later HK4.out.below)
        have HD := Lib.hid hd
        clear hd
        generalize hrL : run.length = RL at hrl hrc HD ⊢
        have HRL := Lib.hid hrL
        clear hrL
        go_wp2_with fail
        refine HD.out.mono ?_
        clear HD
        intro e wa ha
        cases hq : decF run with
        | error er =>
          rw [hq] at ha
          obtain ⟨rfl, hka⟩ := ha
          have q0 : (er != 0) = true := by simpa using decF_nz hq
          obtain ⟨Wb, hWb⟩ : ∃ Wb, Wb = wa.alloc (.cells zero11 33) := ⟨_, rfl⟩
          have hb : Wb.heap[wa.heap.size]? = some (.cells zero11 33) := by rw [hWb]; exact obj_new _ _
          have hkb : Keeps wa Wb := by rw [hWb]; exact (Keeps.refl wa).alloc _
          have hkw := HK4.out.trans (hka.trans hkb)
          have hlv := live_calls Wb (HTB.out.below hkw.below) (HT.out.later hkw.below)
          have HB := Lib.hid hb
          have HKW := Lib.hid hkw
          have HLV := Lib.hid hlv
          clear hb hkb hkw hlv hka hq
          rw [show frCells none 0 none 0 none 0 frZero = #[.int .i64 0, .int .i64 0, .slice none 0 0, .int .i64 0, .int .i64 0, .int .i64 0, .slice none 0 0, .int .i64 0, .int .i64 0, .int .i64 0, .slice none 0 0] from rfl]
          go_wp2_with fail
          rw [← hWb]
          clear hWb
          refine HLV.out.mono ?_
          rintro e wc ⟨rfl, hkc⟩
          have hbc : wc.heap[wa.heap.size]? = some (.cells zero11 33) := (hkc.below.block _ (obj_lt HB.out)).trans HB.out
          obtain ⟨⟨a0, a1, a2, a3, a4, a5, a6, a7, a8, a9, a10⟩, _⟩ := cells11 (x0 := .int .i64 0) (x1 := .int .i64 0) (x2 := .slice none 0 0) (x3 := .int .i64 0) (x4 := .int .i64 0) (x5 := .int .i64 0) (x6 := .slice none 0 0) (x7 := .int .i64 0) (x8 := .int .i64 0) (x9 := .int .i64 0) (x10 := .slice none 0 0) hbc
          have hpl := plain_calls none 0 none 0 none 0 frZero frZero_plain wc
          have HPL := Lib.hid hpl
          have HBC := Lib.hid hbc
          have HKC := Lib.hid (HKW.out.trans hkc)
          clear hkc hbc hpl HLV
          go_wp2_with fail
          refine HPL.out.mono ?_
          rintro e wd ⟨rfl, hkd⟩
          have hbd : wd.heap[wa.heap.size]? = some (.cells zero11 33) := (hkd.below.block _ (obj_lt HBC.out)).trans HBC.out
          obtain ⟨⟨g0, g1, g2, g3, g4, g5, g6, g7, g8, g9, g10⟩, _⟩ := cells11 (x0 := .int .i64 0) (x1 := .int .i64 0) (x2 := .slice none 0 0) (x3 := .int .i64 0) (x4 := .int .i64 0) (x5 := .int .i64 0) (x6 := .slice none 0 0) (x7 := .int .i64 0) (x8 := .int .i64 0) (x9 := .int .i64 0) (x10 := .slice none 0 0) hbd
          have HKD := Lib.hid (HKC.out.trans hkd)
          clear hkd hbd HPL
          go_wp2
          go_ret
          exact ⟨rfl, HKD.out⟩
        | ok x =>
          rw [hq] at ha
          obtain ⟨A3, c3, B3, d3, E3, k3, rfl, hfo, hka⟩ := ha
          obtain ⟨_, hxw, _, _⟩ := decF_ok hq
          have hxe := dec_back hq
          obtain ⟨Wb, hWb⟩ : ∃ Wb, Wb = wa.alloc (.cells (frCells A3 c3 B3 d3 E3 k3 x) 33) := ⟨_, rfl⟩
          have hb : Wb.heap[wa.heap.size]? = some (.cells (frCells A3 c3 B3 d3 E3 k3 x) 33) := by rw [hWb]; exact obj_new _ _
          have hkb : Keeps wa Wb := by rw [hWb]; exact (Keeps.refl wa).alloc _
          have hkw := HK4.out.trans (hka.trans hkb)
          have hfs := ((hfo.below hkb.below).toS (dec_len hq).1 (dec_len hq).2)
          have hen := encode_calls A3 B3 E3 c3 d3 k3 x Wb (hfs.mono fun b hb _ => hb) hxw (HTB.out.below hkw.below) (HT.out.later hkw.below)
          rw [hxe] at hen
          obtain ⟨⟨b0, b1, b2, b3, b4, b5, b6, b7, b8, b9, b10⟩, _⟩ := cells11 (x0 := .int .i64 x.kind) (x1 := .int .i64 x.number) (x2 := .slice A3 x.cols.length c3) (x3 := .int .i64 x.seq) (x4 := .int .i64 x.first) (x5 := .int .i64 x.rows) (x6 := .slice B3 x.block.length d3) (x7 := .int .i64 x.spot) (x8 := .int .i64 x.frames) (x9 := .int .i64 x.irows) (x10 := .slice E3 x.ents.length k3) hb
          have HKW := Lib.hid hkw
          have HEN := Lib.hid hen
          clear hb hkb hkw hen hka hfo hfs hxw hxe hq
          unfold frCells at *
          go_wp2_with fail
          rw [← hWb]
          clear hWb b0 b1 b2 b3 b4 b5 b6 b7 b8 b9 b10
          refine HEN.out.mono ?_
          rintro e wc ⟨vc, rfl, hoc, hkc⟩
          obtain ⟨Ae, ce, rfl, hlce, hre, hce, _⟩ := hoc.form
          have hkw2 := HKW.out.trans hkc
          have hlv := live_calls wc (HTB.out.below hkw2.below) (HT.out.later hkw2.below)
          obtain ⟨LC, hLC⟩ : ∃ LC, LC = ((0 : UInt8) :: (run ++ [0])).length := ⟨_, rfl⟩
          have hLC2 : LC = RL + 2 := by rw [hLC, ← HRL.out]; simp
          rw [← hLC] at hlce ⊢
          have HRE := Lib.hid hre
          have HKW2 := Lib.hid hkw2
          have HLV := Lib.hid hlv
          have HLC2 := Lib.hid hLC2
          clear hoc hkc hre hkw2 hlv HEN HKW hLC hLC2
          go_wp2_with fail
          refine HLV.out.mono ?_
          rintro e wd ⟨rfl, hkd⟩
          have hre := HRE.out.below hkd.below
          obtain ⟨ad, rfl, _⟩ := hre.out 0 (by simp)
          have hkd2 := HKW2.out.trans hkd
          obtain ⟨m, hm⟩ : ∃ m, m = RL + 1 := ⟨_, rfl⟩
          have hLC2 := HLC2.out
          have hre2 : Reads wd (some ⟨ad.block, ad.off + 1, none⟩) run := by
            have h1 := (hre.drop 1 (ad' := ⟨ad.block, ad.off + 1, none⟩) (fun i => by rw [addr_add_mk, addr_add_pos ad (1 + i) (by omega)]; congr 1; omega)).take run.length
            have h2 : (((0 : UInt8) :: (run ++ [0])).drop 1).take run.length = run := by simp
            rwa [h2] at h1
          have hsm : Calls Tryd.prog 13 #[.slice (some ⟨ad.block, ad.off + 1, none⟩) (m - 1) (ce - 1), .slice Ar RL cr] wd fun e w' => e = .returned (.bool true) ∧ Quiet wd w' := by
            have h := same12_calls (some ⟨ad.block, ad.off + 1, none⟩) Ar (ce - 1) cr run run wd (by rw [HRL.out]; omega) (by rw [HRL.out]; omega) hre2 (HRUN.out.below hkd2.below)
            rw [HRL.out] at h
            rw [show m - 1 = RL by omega]
            simpa using h
          have q2 : ((LC : Int) == (RL : Int) + 2) = true := by rw [beq_iff_eq]; omega
          have hw1 : IntKind.i64.wrap ((LC : Int) - 1) = (m : Int) := by rw [IntWalk.i64_in _ (by omega)]; omega
          have hce1 : ¬ ce = 1 := by omega
          have hm1 : 1 ≤ m := by omega
          have hmL : m ≤ LC := by omega
          have hmc : m ≤ ce := by omega
          have HSM := Lib.hid hsm
          have HKD := Lib.hid hkd2
          clear hre hre2 hkd hkd2 hsm hm hLC2 HLV HKW2 HRE
          go_wp2_with fail
          refine HSM.out.mono ?_
          rintro e we ⟨rfl, hqe⟩
          have HKE := Lib.hid (HKD.out.quiet hqe)
          clear hqe HSM HKD
          go_wp2
          go_ret
          exact ⟨rfl, HKE.out⟩
end Go.Proofs.YtbhhhkilljnkfaaDoor
/- What the second form's bound gives: the bulk of a list of data is at least its length. No condition. -/
namespace Go.Proofs.YtbhhhkilljnkfaaDoor
theorem bulk_one {H : Type} (d : DataW H) : 1 ≤ Rows.uptoBulk d := by
  cases d with
  | lit l => cases l <;> simp [Rows.uptoBulk]
  | nil => simp [Rows.uptoBulk]
  | ptr d => simp [Rows.uptoBulk]
  | slice elems spare => simp [Rows.uptoBulk]
  | agg parts => simp [Rows.uptoBulk]
  | iface t d => simp [Rows.uptoBulk]
  | map entries => simp [Rows.uptoBulk]
  | held h => simp [Rows.uptoBulk]
theorem bulk_length {H : Type} (l : List (DataW H)) : l.length ≤ Rows.uptoBulkAll l := by
  induction l with
  | nil => simp [Rows.uptoBulkAll]
  | cons x r ih => have := bulk_one x; simp only [Rows.uptoBulkAll, List.length_cons]; omega
theorem bulk_mem {H : Type} {d : DataW H} {l : List (DataW H)} (h : d ∈ l) : Rows.uptoBulk d ≤ Rows.uptoBulkAll l := by
  induction l with
  | nil => cases h
  | cons x r ih =>
    simp only [Rows.uptoBulkAll]
    cases List.mem_cons.1 h with
    | inl e => subst e; omega
    | inr e => have := ih e; omega
end Go.Proofs.YtbhhhkilljnkfaaDoor
/- How what lies in a struct's field reads: a slice of bytes. No condition. -/
namespace Go.Proofs.YtbhhhkilljnkfaaDoor
open Go.RowKit Go.ChangeShapes Go.WideShapes Go.ChangeAt Go.WideElems

/-- a cell that is a slice of bytes -/
theorem open_bytes_at {H : Type} {enc : TypeId × Value → H} {P : Program} {W : World} {t e : TypeId} {v : Value} {y : DataW H × List MemPlace} {fuel : Nat} (ht : P.underlying t = some (.slice e)) (he : P.underlying e = some (.int .u8)) (hc : P.cellsOf e = 1)
    (h : DataW.trod enc P W 0 (fun _ => true) true fuel t [v] = some y) :
    ∃ A c l, v = .slice A l.length c ∧ Reads W A l ∧ l.length ≤ c ∧ c ≤ 9223372036854775807 ∧ ((y.1 = .nil ∧ l = []) ∨ ∃ xs ys, y.1 = .slice xs ys ∧ xs.length = l.length ∧ l.length + ys.length = c) := by
  rcases open_ints ht he hc h with ⟨hcs, hx⟩ | ⟨a, len, cap, zs, hcs, _, hl, hm, hz, hx, hcell, hwz⟩
  · simp at hcs
    subst hcs
    exact ⟨none, 0, [], rfl, Reads.nil _ _, by simp, by omega, .inl ⟨by rw [hx], rfl⟩⟩
  · simp at hcs
    subst hcs
    have hz' : zs.length = cap := by simpa using hz
    obtain ⟨l, hll, hlg⟩ := bytes_of_ints (zs.take len) (fun n hn => hwz n (List.mem_of_mem_take hn))
    have hlen : l.length = len := by rw [hll, List.length_take]; omega
    refine ⟨some a, cap, l, by rw [hlen], ?_, by omega, by simpa [maxLen] using hm, .inr ⟨_, _, by rw [hx], by simp [lits, hll], by simp [lits]; omega⟩⟩
    intro i u hu
    have hi : i < l.length := by
      rcases Nat.lt_or_ge i l.length with h | h
      · exact h
      · rw [List.getElem?_eq_none (by rw [u8s_length]; exact h)] at hu; cases hu
    rw [u8s_get l i hi] at hu
    cases hu
    refine ⟨a, rfl, ?_⟩
    have := hcell i (by omega)
    rw [this, hlg i hi]
    simp [List.getD_eq_getElem?_getD, show i < len by omega]
end Go.Proofs.YtbhhhkilljnkfaaDoor
/- How an argument that is a frame reads: as a frame, where it holds no more than so many values and letters. No condition. -/
namespace Go.Proofs.YtbhhhkilljnkfaaDoor
open Go.RowKit Go.ChangeShapes Go.WideShapes Go.ChangeAt Go.WideElems
set_option linter.unusedVariables false
set_option linter.unusedSimpArgs false

section
variable {H : Type} {enc : TypeId × Value → H} {W : World}
noncomputable abbrev rd (enc : TypeId × Value → H) (W : World) := DataW.trod enc Tryd.prog W 0 (fun _ => true) true

/-- a slice whose elements each read as R says -/
theorem slice_open {α : Type} {t e : TypeId} {k N : Nat} (ht : Tryd.prog.underlying t = some (.slice e)) (hk : Tryd.prog.cellsOf e = k) {fuel : Nat} {cs : List Value} {x : DataW H × List MemPlace} (h : rd enc W fuel t cs = some x) (hb : Rows.uptoBulk x.1 ≤ N)
    (R : List Value → α → Prop) (each : ∀ n, n < fuel → ∀ ce y, rd enc W n e ce = some y → Rows.uptoBulk y.1 ≤ N → ∃ a : α, R ce a) :
    ∃ (A : Option Addr) (len cap : Nat) (l : List α), cs = [.slice A len cap] ∧ l.length = len ∧ len ≤ N ∧ len ≤ cap ∧ cap ≤ maxLen ∧
      ∀ i (hi : i < l.length), ∃ ad ce, A = some ad ∧ ce.length = k ∧ (∀ j, j < k → W.cell? (ad.add (k * i + j)) = ce[j]?) ∧ R ce (l[i]'hi) := by
  rcases DataW.trod_slice ht h with ⟨hcs, hx⟩ | ⟨a, len, cap, elems, rest, n, hf, hcs, hx, _, hl, hm, hlen, hel, _, _⟩
  · exact ⟨none, 0, 0, [], hcs, rfl, by omega, by omega, by unfold maxLen; omega, fun i hi => absurd hi (by simp)⟩
  · subst hx
    simp only [Rows.uptoBulk] at hb
    have hb1 := bulk_length (elems.map (·.1))
    rw [List.length_map, hlen] at hb1
    have each' : ∀ i, i < len → ∃ p : List Value × α, p.1.length = k ∧ (∀ j, j < k → W.cell? (a.add (k * i + j)) = p.1[j]?) ∧ R p.1 p.2 := by
      intro i hi
      have h1 := hel i hi
      have hie : i < elems.length := by omega
      rw [List.getElem?_eq_getElem hie, hk] at h1
      obtain ⟨ce, hce, htr⟩ := Option.bind_eq_some_iff.1 h1
      obtain ⟨_, hl1, hc1⟩ := World.cells?_some hce
      have hmem : (elems[i]'hie).1 ∈ elems.map (·.1) := List.mem_map.2 ⟨_, List.getElem_mem hie, rfl⟩
      have hb2 := bulk_mem hmem
      obtain ⟨p, hp⟩ := each n (by omega) ce _ htr (by omega)
      refine ⟨(ce, p), hl1, fun j hj => ?_, hp⟩
      have := hc1 j hj
      rw [addr_add_add] at this
      rw [Nat.mul_comm k i]
      exact this
    by_cases h0 : len = 0
    · exact ⟨some a, len, cap, [], hcs, by simp [h0], by omega, hl, hm, fun i hi => absurd hi (by simp)⟩
    · haveI : Inhabited (List Value × α) := ⟨(each' 0 (by omega)).choose⟩
      obtain ⟨g, hg⟩ := Deep.choose_lt each'
      refine ⟨some a, len, cap, (List.range len).map fun i => (g i).2, hcs, by simp, by omega, hl, hm, fun i hi => ?_⟩
      have hi' : i < len := by simpa using hi
      obtain ⟨g1, g2, g3⟩ := hg i hi'
      refine ⟨a, (g i).1, rfl, g1, g2, ?_⟩
      simpa using g3

theorem list2 {cs : List Value} (h : cs.length = 2) : ∃ a b, cs = [a, b] := by
  match cs, h with
  | [a, b], _ => exact ⟨a, b, rfl⟩
theorem xs_get {β : Type} {xs : List β} {n i : Nat} (h : xs.length = n) (hi : i < n) : ∃ y, xs[i]? = some y ∧ y ∈ xs := ⟨xs[i]'(by omega), List.getElem?_eq_getElem _, List.getElem_mem _⟩
theorem part_bulk {xs : List (DataW H × List MemPlace)} {y : DataW H × List MemPlace} {N : Nat} (hy : y ∈ xs) (hb : Rows.uptoBulk (.agg (xs.map (·.1)) : DataW H) ≤ N) : Rows.uptoBulk y.1 ≤ N := by
  simp only [Rows.uptoBulk] at hb
  have := bulk_mem (List.mem_map.2 ⟨y, hy, rfl⟩ : y.1 ∈ xs.map (·.1))
  omega
theorem cells_int : Tryd.prog.cellsOf 3 = 1 := by kernel_rfl
theorem cells_i64 : Tryd.prog.cellsOf 2 = 1 := by kernel_rfl
theorem cells_bool : Tryd.prog.cellsOf 4 = 1 := by kernel_rfl
theorem cells_str : Tryd.prog.cellsOf 9 = 1 := by kernel_rfl
theorem cells_f64 : Tryd.prog.cellsOf 80 = 1 := by kernel_rfl
theorem cells_u8 : Tryd.prog.cellsOf 5 = 1 := by kernel_rfl
theorem cells_type : Tryd.prog.cellsOf 79 = 2 := by kernel_rfl
theorem cells_types : Tryd.prog.cellsOf 77 = 1 := by kernel_rfl
theorem cells_value : Tryd.prog.cellsOf 83 = 5 := by kernel_rfl
theorem cells_values : Tryd.prog.cellsOf 81 = 1 := by kernel_rfl
theorem cells_col : Tryd.prog.cellsOf 85 = 9 := by kernel_rfl
theorem cells_cols : Tryd.prog.cellsOf 26 = 1 := by kernel_rfl
theorem cells_sch : Tryd.prog.cellsOf 28 = 1 := by kernel_rfl
theorem cells_ent : Tryd.prog.cellsOf 58 = 3 := by kernel_rfl
theorem cells_ents : Tryd.prog.cellsOf 29 = 1 := by kernel_rfl
theorem cells_ix : Tryd.prog.cellsOf 31 = 4 := by kernel_rfl
theorem cells_bytes : Tryd.prog.cellsOf 22 = 1 := by kernel_rfl
theorem cells_frame : Tryd.prog.cellsOf 33 = 11 := by kernel_rfl
theorem i64_bounds {n : Int} (h : (Lit.int .i64 n).wf = true) : -9223372036854775808 ≤ n ∧ n ≤ 9223372036854775807 := by
  simpa [Lit.wf, IntKind.min, IntKind.max, IntKind.signed, IntKind.bits] using h
theorem trod_f64 {fuel : Nat} {t : TypeId} {cs : List Value} {x : DataW H × List MemPlace} (ht : Tryd.prog.underlying t = some (.float .f64)) (h : rd enc W fuel t cs = some x) : ∃ f, cs = [.float .f64 f] ∧ f < 18446744073709551616 := by
  cases fuel with
  | zero => simp [rd, DataW.trod] at h
  | succ n =>
    unfold rd DataW.trod at h
    rw [ht] at h
    match cs, h with
    | [.float k' b], h =>
      simp only at h
      split at h
      · rename_i hk
        obtain ⟨rfl, hw⟩ := hk
        exact ⟨b, rfl, by simpa [Lit.wf] using hw⟩
      · cases h

/-- a type -/
theorem open_type (N : Nat) (hN : N ≤ 1048576) : ∀ (fuel : Nat) (cs : List Value) (x : DataW H × List MemPlace), rd enc W fuel 79 cs = some x → Rows.uptoBulk x.1 ≤ N →
    ∃ (t : Ty) (A : Option Addr) (c : Nat), cs = [.int .i64 t.kind, .slice A t.of.length c] ∧ TyAt W (.agg #[.int .i64 t.kind, .slice A t.of.length c]) t := by
  intro fuel
  induction fuel using Nat.strongRecOn with
  | _ fuel ih =>
    intro cs x h hb
    obtain ⟨xs, n, hf, rfl, hcl, hxl, hall⟩ := DataW.trod_struct Tryd.underlying79 h
    rw [cells_type] at hcl
    obtain ⟨c0, c1, rfl⟩ := list2 hcl
    have hxl : xs.length = 2 := hxl
    obtain ⟨y0, e0, m0⟩ := xs_get (i := 0) hxl (by omega)
    obtain ⟨y1, e1, m1⟩ := xs_get (i := 1) hxl (by omega)
    have t0 : rd enc W n 3 (([c0, c1].drop 0).take (Tryd.prog.cellsOf 3)) = xs[0]? := hall 0 _ rfl
    have t1 : rd enc W n 77 (([c0, c1].drop 1).take (Tryd.prog.cellsOf 77)) = xs[1]? := hall 1 _ rfl
    rw [cells_int, e0] at t0
    rw [cells_types, e1] at t1
    simp only [List.drop_zero, List.drop_succ_cons, List.take_succ_cons, List.take_zero] at t0 t1
    obtain ⟨kd, hk, _, _⟩ := DataW.trod_int Tryd.underlying3 t0
    simp only [List.cons.injEq, and_true] at hk
    subst hk
    obtain ⟨A, len, cap, l, hcs, rfl, hlN, _, _, hel⟩ := slice_open (N := N) Tryd.underlying77 cells_type t1 (part_bulk m1 hb) (fun ce (t : Ty) => ∃ (A : Option Addr) (c : Nat), ce = [.int .i64 t.kind, .slice A t.of.length c] ∧ TyAt W (.agg #[.int .i64 t.kind, .slice A t.of.length c]) t)
      (fun m hm ce y hy hby => ih m (by omega) ce y hy hby)
    simp only [List.cons.injEq, and_true] at hcs
    subst hcs
    have each : ∀ i, i < l.length → ∃ v : Value, (∃ ad k' s', A = some ad ∧ W.cell? (ad.add (2 * i)) = some (.int .i64 k') ∧ W.cell? (ad.add (2 * i + 1)) = some s' ∧ v = .agg #[.int .i64 k', s']) ∧ ∀ hi : i < l.length, TyAt W v (l[i]'hi) := by
      intro i hi
      obtain ⟨ad, ce, hA, _, hc, A', c', hce, hT⟩ := hel i hi
      have q0 := hc 0 (by omega)
      have q1 := hc 1 (by omega)
      rw [hce] at q0 q1
      exact ⟨_, ⟨ad, _, _, hA, q0, q1, rfl⟩, fun _ => hT⟩
    obtain ⟨vs, hvs⟩ := Deep.choose_lt each
    refine ⟨.mk kd l, A, cap, rfl, ?_⟩
    exact TyAt.mk kd A cap l vs (by omega) (fun i hi => (hvs i hi).1) (fun i hi => (hvs i hi).2 hi)
end
end Go.Proofs.YtbhhhkilljnkfaaDoor
/- How an argument that is a frame reads, part two: values, columns, frames. No condition. -/
namespace Go.Proofs.YtbhhhkilljnkfaaDoor
open Go.RowKit Go.ChangeShapes Go.WideShapes Go.ChangeAt Go.WideElems
set_option linter.unusedVariables false
set_option linter.unusedSimpArgs false

section
variable {H : Type} {enc : TypeId × Value → H} {W : World}
theorem list5 {cs : List Value} (h : cs.length = 5) : ∃ a b c d e, cs = [a, b, c, d, e] := by
  match cs, h with
  | [a, b, c, d, e], _ => exact ⟨a, b, c, d, e, rfl⟩
theorem list3 {cs : List Value} (h : cs.length = 3) : ∃ a b c, cs = [a, b, c] := by
  match cs, h with
  | [a, b, c], _ => exact ⟨a, b, c, rfl⟩
theorem list4 {cs : List Value} (h : cs.length = 4) : ∃ a b c d, cs = [a, b, c, d] := by
  match cs, h with
  | [a, b, c, d], _ => exact ⟨a, b, c, d, rfl⟩
theorem list9 {cs : List Value} (h : cs.length = 9) : ∃ a b c d e f g i j, cs = [a, b, c, d, e, f, g, i, j] := by
  match cs, h with
  | [a, b, c, d, e, f, g, i, j], _ => exact ⟨a, b, c, d, e, f, g, i, j, rfl⟩
theorem list11 {cs : List Value} (h : cs.length = 11) : ∃ a b c d e f g i j k l, cs = [a, b, c, d, e, f, g, i, j, k, l] := by
  match cs, h with
  | [a, b, c, d, e, f, g, i, j, k, l], _ => exact ⟨a, b, c, d, e, f, g, i, j, k, l, rfl⟩
/-- the five cells of a value -/
def VaIs (W : World) (ce : List Value) (v : Va) : Prop :=
  ∃ (A : Option Addr) (c : Nat), ce = [.int .i64 v.kind, .int .i64 v.int, .float .f64 v.fl, .string v.text, .slice A v.items.length c] ∧ VaAt W (.agg #[.int .i64 v.kind, .int .i64 v.int, .float .f64 v.fl, .string v.text, .slice A v.items.length c]) v ∧ v.wf
theorem wfs_of : ∀ (l : List Va), (∀ i (hi : i < l.length), (l[i]'hi).wf) → Va.wfs l
  | [], _ => by simp [Va.wfs]
  | v :: l, h => by
    rw [Va.wfs]
    exact ⟨h 0 (by simp), wfs_of l fun i hi => h (i + 1) (by simpa using hi)⟩
/-- a value -/
theorem open_value (N : Nat) (hN : N ≤ 1048576) : ∀ (fuel : Nat) (cs : List Value) (x : DataW H × List MemPlace), rd enc W fuel 83 cs = some x → Rows.uptoBulk x.1 ≤ N → ∃ v : Va, VaIs W cs v := by
  intro fuel
  induction fuel using Nat.strongRecOn with
  | _ fuel ih =>
    intro cs x h hb
    obtain ⟨xs, n, hf, rfl, hcl, hxl, hall⟩ := DataW.trod_struct Tryd.underlying83 h
    rw [cells_value] at hcl
    obtain ⟨c0, c1, c2, c3, c4, rfl⟩ := list5 hcl
    have hxl : xs.length = 5 := hxl
    obtain ⟨y0, e0, m0⟩ := xs_get (i := 0) hxl (by omega)
    obtain ⟨y1, e1, m1⟩ := xs_get (i := 1) hxl (by omega)
    obtain ⟨y2, e2, m2⟩ := xs_get (i := 2) hxl (by omega)
    obtain ⟨y3, e3, m3⟩ := xs_get (i := 3) hxl (by omega)
    obtain ⟨y4, e4, m4⟩ := xs_get (i := 4) hxl (by omega)
    have t0 : rd enc W n 3 (([c0, c1, c2, c3, c4].drop 0).take (Tryd.prog.cellsOf 3)) = xs[0]? := hall 0 _ rfl
    have t1 : rd enc W n 2 (([c0, c1, c2, c3, c4].drop 1).take (Tryd.prog.cellsOf 2)) = xs[1]? := hall 1 _ rfl
    have t2 : rd enc W n 80 (([c0, c1, c2, c3, c4].drop 2).take (Tryd.prog.cellsOf 80)) = xs[2]? := hall 2 _ rfl
    have t3 : rd enc W n 9 (([c0, c1, c2, c3, c4].drop 3).take (Tryd.prog.cellsOf 9)) = xs[3]? := hall 3 _ rfl
    have t4 : rd enc W n 81 (([c0, c1, c2, c3, c4].drop 4).take (Tryd.prog.cellsOf 81)) = xs[4]? := hall 4 _ rfl
    rw [cells_int, e0] at t0
    rw [cells_i64, e1] at t1
    rw [cells_f64, e2] at t2
    rw [cells_str, e3] at t3
    rw [cells_values, e4] at t4
    simp only [List.drop_zero, List.drop_succ_cons, List.take_succ_cons, List.take_zero] at t0 t1 t2 t3 t4
    obtain ⟨kd, hk, _, _⟩ := DataW.trod_int Tryd.underlying3 t0
    obtain ⟨ii, hi, _, wi⟩ := DataW.trod_int Tryd.underlying2 t1
    obtain ⟨ff, hff, wf⟩ := trod_f64 Tryd.underlying80 t2
    obtain ⟨tx, htx, _, _⟩ := DataW.trod_string Tryd.underlying9 t3
    simp only [List.cons.injEq, and_true] at hk hi hff htx
    subst hk hi hff htx
    obtain ⟨A, len, cap, l, hcs, rfl, hlN, _, _, hel⟩ := slice_open (N := N) Tryd.underlying81 cells_value t4 (part_bulk m4 hb) (VaIs W) (fun m hm ce y hy hby => ih m (by omega) ce y hy hby)
    simp only [List.cons.injEq, and_true] at hcs
    subst hcs
    have each : ∀ j, j < l.length → ∃ v : Value, (∃ ad k' i' f' t' s', A = some ad ∧ W.cell? (ad.add (5 * j)) = some (.int .i64 k') ∧ W.cell? (ad.add (5 * j + 1)) = some (.int .i64 i') ∧ W.cell? (ad.add (5 * j + 2)) = some (.float .f64 f') ∧
        W.cell? (ad.add (5 * j + 3)) = some (.string t') ∧ W.cell? (ad.add (5 * j + 4)) = some s' ∧ v = .agg #[.int .i64 k', .int .i64 i', .float .f64 f', .string t', s']) ∧ ∀ hj : j < l.length, VaAt W v (l[j]'hj) ∧ (l[j]'hj).wf := by
      intro j hj
      obtain ⟨ad, ce, hA, _, hc, A', c', hce, hT, hw⟩ := hel j hj
      have q0 := hc 0 (by omega)
      have q1 := hc 1 (by omega)
      have q2 := hc 2 (by omega)
      have q3 := hc 3 (by omega)
      have q4 := hc 4 (by omega)
      rw [hce] at q0 q1 q2 q3 q4
      exact ⟨_, ⟨ad, _, _, _, _, _, hA, q0, q1, q2, q3, q4, rfl⟩, fun _ => ⟨hT, hw⟩⟩
    obtain ⟨vs, hvs⟩ := Deep.choose_lt each
    refine ⟨.mk kd ii ff tx l, A, cap, rfl, VaAt.mk kd ii ff tx A cap l vs (by omega) (fun j hj => (hvs j hj).1) (fun j hj => ((hvs j hj).2 hj).1), ?_⟩
    rw [Va.wf]
    have := i64_bounds wi
    exact ⟨this.1, this.2, wf, wfs_of l fun j hj => ((hvs j hj).2 hj).2⟩
/-- the nine cells of a column -/
def ColIs (W : World) (N : Nat) (ce : List Value) (c : Col) : Prop :=
  ∃ x0 x1 x2 x3 x4 x5 x6 x7 x8, ce = [x0, x1, x2, x3, x4, x5, x6, x7, x8] ∧ ColC W (fun b => b < W.heap.size) x0 x1 x2 x3 x4 x5 x6 x7 x8 c ∧ c.dflt.wf ∧ c.name.size ≤ N
theorem open_col (N : Nat) (hN : N ≤ 1048576) (fuel : Nat) (cs : List Value) (x : DataW H × List MemPlace) (h : rd enc W fuel 85 cs = some x) (hb : Rows.uptoBulk x.1 ≤ N) : ∃ c : Col, ColIs W N cs c := by
  obtain ⟨xs, n, hf, rfl, hcl, hxl, hall⟩ := DataW.trod_struct Tryd.underlying85 h
  rw [cells_col] at hcl
  obtain ⟨c0, c1, c2, c3, c4, c5, c6, c7, c8, rfl⟩ := list9 hcl
  have hxl : xs.length = 4 := hxl
  obtain ⟨y0, e0, m0⟩ := xs_get (i := 0) hxl (by omega)
  obtain ⟨y1, e1, m1⟩ := xs_get (i := 1) hxl (by omega)
  obtain ⟨y2, e2, m2⟩ := xs_get (i := 2) hxl (by omega)
  obtain ⟨y3, e3, m3⟩ := xs_get (i := 3) hxl (by omega)
  have t0 : rd enc W n 9 (([c0, c1, c2, c3, c4, c5, c6, c7, c8].drop 0).take (Tryd.prog.cellsOf 9)) = xs[0]? := hall 0 _ rfl
  have t1 : rd enc W n 79 (([c0, c1, c2, c3, c4, c5, c6, c7, c8].drop 1).take (Tryd.prog.cellsOf 79)) = xs[1]? := hall 1 _ rfl
  have t2 : rd enc W n 4 (([c0, c1, c2, c3, c4, c5, c6, c7, c8].drop 3).take (Tryd.prog.cellsOf 4)) = xs[2]? := hall 2 _ rfl
  have t3 : rd enc W n 83 (([c0, c1, c2, c3, c4, c5, c6, c7, c8].drop 4).take (Tryd.prog.cellsOf 83)) = xs[3]? := hall 3 _ rfl
  rw [cells_str, e0] at t0
  rw [cells_type, e1] at t1
  rw [cells_bool, e2] at t2
  rw [cells_value, e3] at t3
  simp only [List.drop_zero, List.drop_succ_cons, List.take_succ_cons, List.take_zero] at t0 t1 t2 t3
  obtain ⟨s, hs, hsx, _⟩ := DataW.trod_string Tryd.underlying9 t0
  obtain ⟨bo, hbo, _⟩ := DataW.trod_bool Tryd.underlying4 t2
  obtain ⟨ty, A, c, ht, hty⟩ := open_type N hN n _ _ t1 (part_bulk m1 hb)
  obtain ⟨v, B, d, hv, hva, hvw⟩ := open_value N hN n _ _ t3 (part_bulk m3 hb)
  simp only [List.cons.injEq, and_true] at hs hbo ht hv
  obtain ⟨rfl, rfl⟩ := ht
  obtain ⟨rfl, rfl, rfl, rfl, rfl⟩ := hv
  subst hs hbo
  have hb0 := part_bulk m0 hb
  rw [hsx] at hb0
  simp only [Rows.uptoBulk] at hb0
  have hsz : s.data.toList.length = s.size := rfl
  exact ⟨⟨s, ty, bo, v⟩, _, _, _, _, _, _, _, _, _, rfl, ⟨rfl, rfl, rfl, rfl, rfl, rfl, rfl, TyS.of_at hty, VaS.of_at hva⟩, hvw, by show s.size ≤ N; omega⟩
end
end Go.Proofs.YtbhhhkilljnkfaaDoor
/- How an argument that is a frame reads, part three: the frame. No condition. -/
namespace Go.Proofs.YtbhhhkilljnkfaaDoor
open Go.RowKit Go.ChangeShapes Go.WideShapes Go.ChangeAt Go.WideElems
set_option linter.unusedVariables false
set_option linter.unusedSimpArgs false

theorem row_flat {W : World} {A : Option Addr} {k len : Nat} (hk : 0 < k) (ce : Nat → List Value) (hl : ∀ i, i < len → (ce i).length = k) (hc : ∀ i, i < len → ∃ ad, A = some ad ∧ ∀ r, r < k → W.cell? (ad.add (k * i + r)) = (ce i)[r]?) :
    ∃ xs : List Value, xs.length = k * len ∧ RowAt W A xs ∧ ∀ j, j < len → ∀ r, r < k → xs[k * j + r]? = (ce j)[r]? := by
  have hget : ∀ i, i < k * len → ((List.range (k * len)).map fun i => ((ce (i / k))[i % k]?).getD .nilIface)[i]? = (ce (i / k))[i % k]? := by
    intro i hi
    have hj : i / k < len := by rw [Nat.div_lt_iff_lt_mul hk, Nat.mul_comm]; exact hi
    have hr : i % k < (ce (i / k)).length := by rw [hl _ hj]; exact Nat.mod_lt _ hk
    simp [hi, List.getElem?_eq_getElem hr]
  refine ⟨(List.range (k * len)).map fun i => ((ce (i / k))[i % k]?).getD .nilIface, by simp, ?_, ?_⟩
  · intro i v hv
    have hi : i < k * len := by
      rcases Nat.lt_or_ge i (k * len) with h | h
      · exact h
      · rw [List.getElem?_eq_none (by simpa using h)] at hv; cases hv
    have hj : i / k < len := by rw [Nat.div_lt_iff_lt_mul hk, Nat.mul_comm]; exact hi
    rw [hget i hi] at hv
    obtain ⟨ad, hA, hr⟩ := hc _ hj
    refine ⟨ad, hA, ?_⟩
    have := hr (i % k) (Nat.mod_lt _ hk)
    rw [Nat.div_add_mod] at this
    rw [this, hv]
  · intro j hj r hr
    have hi : k * j + r < k * len := by
      have : k * (j + 1) ≤ k * len := Nat.mul_le_mul_left _ hj
      rw [Nat.mul_add] at this
      omega
    rw [hget _ hi, Nat.mul_add_div hk, Nat.div_eq_of_lt hr, Nat.add_zero, Nat.mul_add_mod, Nat.mod_eq_of_lt hr]
theorem row_low {W : World} {A : Option Addr} {xs : List Value} (h : RowAt W A xs) (hn : xs ≠ []) : ∀ a, A = some a → a.block < W.heap.size := fun a e => by
  cases xs with
  | nil => exact absurd rfl hn
  | cons v xs =>
    obtain ⟨ad, e1, hc⟩ := h 0 v rfl
    rw [e] at e1
    cases e1
    have := World.block_lt_of_cell? W _ hc
    rwa [addr_add_block] at this

section
variable {H : Type} {enc : TypeId × Value → H} {W : World}
theorem open_cols (N : Nat) (hN : N ≤ 1048576) (fuel : Nat) (cs : List Value) (x : DataW H × List MemPlace) (h : rd enc W fuel 26 cs = some x) (hb : Rows.uptoBulk x.1 ≤ N) :
    ∃ A c l, cs = [.slice A l.length c] ∧ SchS W (fun b => b < W.heap.size) A l ∧ (∀ y ∈ l, y.dflt.wf) ∧ ∀ y ∈ l, y.name.size ≤ N := by
  obtain ⟨A, len, cap, l, rfl, rfl, hlN, _, _, hel⟩ := slice_open (N := N) Tryd.underlying26 cells_col h hb (ColIs W N) (fun n _ ce y hy hby => open_col N hN n ce y hy hby)
  have each : ∀ i, i < l.length → ∃ ce : List Value, (∃ ad, A = some ad ∧ ∀ r, r < 9 → W.cell? (ad.add (9 * i + r)) = ce[r]?) ∧ ce.length = 9 ∧ ∀ hi : i < l.length, ColIs W N ce (l[i]'hi) := by
    intro i hi
    obtain ⟨ad, ce, hA, hl9, hc, hR⟩ := hel i hi
    exact ⟨ce, ⟨ad, hA, hc⟩, hl9, fun _ => hR⟩
  obtain ⟨ce, hce⟩ := Deep.choose_lt each
  obtain ⟨xs, hxl, hrow, hget⟩ := row_flat (W := W) (A := A) (k := 9) (len := l.length) (by omega) ce (fun i hi => (hce i hi).2.1) (fun i hi => (hce i hi).1)
  refine ⟨A, cap, l, rfl, ⟨⟨xs, hrow, hxl, fun j hj => ?_⟩, fun a e hn => ?_, by omega⟩, fun y hy => ?_, fun y hy => ?_⟩
  · obtain ⟨x0, x1, x2, x3, x4, x5, x6, x7, x8, hc9, hcol, _⟩ := (hce j hj).2.2 hj
    have hg := hget j hj
    rw [hc9] at hg
    exact ⟨x0, x1, x2, x3, x4, x5, x6, x7, x8, ⟨hg 0 (by omega), hg 1 (by omega), hg 2 (by omega), hg 3 (by omega), hg 4 (by omega), hg 5 (by omega), hg 6 (by omega), hg 7 (by omega), hg 8 (by omega)⟩, hcol⟩
  · refine row_low hrow (fun h0 => ?_) a e
    have : 0 < l.length := List.length_pos_iff.2 hn
    rw [h0] at hxl
    simp at hxl
    omega
  · obtain ⟨i, hi, rfl⟩ := List.getElem_of_mem hy
    obtain ⟨_, _, _, _, _, _, _, _, _, _, _, hw, _⟩ := (hce i hi).2.2 hi
    exact hw
  · obtain ⟨i, hi, rfl⟩ := List.getElem_of_mem hy
    obtain ⟨_, _, _, _, _, _, _, _, _, _, _, _, hs⟩ := (hce i hi).2.2 hi
    exact hs
theorem open_ents (N : Nat) (fuel : Nat) (cs : List Value) (x : DataW H × List MemPlace) (h : rd enc W fuel 29 cs = some x) (hb : Rows.uptoBulk x.1 ≤ N) :
    ∃ A c l, cs = [.slice A l.length c] ∧ RowAt W A (entCells l) ∧ l.length ≤ N := by
  obtain ⟨A, len, cap, l, rfl, rfl, hlN, _, _, hel⟩ := slice_open (N := N) Tryd.underlying29 cells_ent h hb (fun ce (e : Ent) => ce = [.int .i64 e.spot, .int .i64 e.row, .int .i64 e.sch]) (fun n _ ce y hy hby => by
    obtain ⟨xs, n, hf, rfl, hcl, hxl, hall⟩ := DataW.trod_struct Tryd.underlying58 hy
    rw [cells_ent] at hcl
    obtain ⟨c0, c1, c2, rfl⟩ := list3 hcl
    have hxl : xs.length = 3 := hxl
    obtain ⟨y0, e0, _⟩ := xs_get (i := 0) hxl (by omega)
    obtain ⟨y1, e1, _⟩ := xs_get (i := 1) hxl (by omega)
    obtain ⟨y2, e2, _⟩ := xs_get (i := 2) hxl (by omega)
    have t0 : rd enc W n 2 (([c0, c1, c2].drop 0).take (Tryd.prog.cellsOf 2)) = xs[0]? := hall 0 _ rfl
    have t1 : rd enc W n 2 (([c0, c1, c2].drop 1).take (Tryd.prog.cellsOf 2)) = xs[1]? := hall 1 _ rfl
    have t2 : rd enc W n 2 (([c0, c1, c2].drop 2).take (Tryd.prog.cellsOf 2)) = xs[2]? := hall 2 _ rfl
    rw [cells_i64, e0] at t0
    rw [cells_i64, e1] at t1
    rw [cells_i64, e2] at t2
    simp only [List.drop_zero, List.drop_succ_cons, List.take_succ_cons, List.take_zero] at t0 t1 t2
    obtain ⟨a, ha, _, _⟩ := DataW.trod_int Tryd.underlying2 t0
    obtain ⟨b, hbb, _, _⟩ := DataW.trod_int Tryd.underlying2 t1
    obtain ⟨c, hcc, _, _⟩ := DataW.trod_int Tryd.underlying2 t2
    simp only [List.cons.injEq, and_true] at ha hbb hcc
    subst ha hbb hcc
    exact ⟨⟨a, b, c⟩, rfl⟩)
  refine ⟨A, cap, l, rfl, fun i v hv => ?_, hlN⟩
  have hi : i < 3 * l.length := by
    rcases Nat.lt_or_ge i (3 * l.length) with h | h
    · exact h
    · rw [List.getElem?_eq_none (by rw [entCells_length]; exact h)] at hv; cases hv
  have hj : i / 3 < l.length := by omega
  obtain ⟨ad, ce, hA, _, hc, hce⟩ := hel _ hj
  obtain ⟨g0, g1, g2⟩ := entCells_get l _ hj
  refine ⟨ad, hA, ?_⟩
  have h3 : i = 3 * (i / 3) ∨ i = 3 * (i / 3) + 1 ∨ i = 3 * (i / 3) + 2 := by omega
  rw [hce] at hc
  rcases h3 with h3 | h3 | h3
  · rw [h3] at hv ⊢
    rw [g0] at hv
    injection hv with hv
    rw [← hv]
    exact hc 0 (by omega)
  · rw [h3] at hv ⊢
    rw [g1] at hv
    injection hv with hv
    rw [← hv]
    exact hc 1 (by omega)
  · rw [h3] at hv ⊢
    rw [g2] at hv
    injection hv with hv
    rw [← hv]
    exact hc 2 (by omega)
set_option maxRecDepth 20000 in
/-- an argument that is a frame -/
theorem open_frame {N base : Nat} (hN : N ≤ 1048576) {v : Value} {d : DataW H} {ps : List MemPlace} (hok : Value.okWide Tryd.prog W .any base 33 v) (h : DataW.Trod enc Tryd.prog W 0 (fun _ => true) true 33 v d ps) (hb : Rows.uptoBulk d ≤ N) :
    ∃ A c B m E k f, v = .agg (frCells A c B m E k f) ∧ FrS W (fun b => b < W.heap.size) A B E f ∧ f.wf := by
  obtain ⟨ca, rfl, hsz⟩ := okWide_struct Tryd.underlying33 hok
  obtain ⟨fuel, hf⟩ := h
  obtain ⟨xs, n, _, hx, hcl, hxl, hall⟩ := DataW.trod_struct Tryd.underlying33 hf
  obtain ⟨rfl, _⟩ := Prod.mk.inj hx
  rw [cells_frame] at hcl
  have hcs : (Value.agg ca).cells.toList = ca.toList := rfl
  rw [hcs] at hcl hall
  obtain ⟨c0, c1, c2, c3, c4, c5, c6, c7, c8, c9, c10, hca⟩ := list11 hcl
  rw [hca] at hall
  have hca' : ca = #[c0, c1, c2, c3, c4, c5, c6, c7, c8, c9, c10] := by rw [← Array.toArray_toList (xs := ca), hca]
  have hxl : xs.length = 8 := hxl
  obtain ⟨y0, e0, m0⟩ := xs_get (i := 0) hxl (by omega)
  obtain ⟨y1, e1, m1⟩ := xs_get (i := 1) hxl (by omega)
  obtain ⟨y2, e2, m2⟩ := xs_get (i := 2) hxl (by omega)
  obtain ⟨y3, e3, m3⟩ := xs_get (i := 3) hxl (by omega)
  obtain ⟨y4, e4, m4⟩ := xs_get (i := 4) hxl (by omega)
  obtain ⟨y5, e5, m5⟩ := xs_get (i := 5) hxl (by omega)
  obtain ⟨y6, e6, m6⟩ := xs_get (i := 6) hxl (by omega)
  obtain ⟨y7, e7, m7⟩ := xs_get (i := 7) hxl (by omega)
  have t0 : rd enc W n 3 (([c0, c1, c2, c3, c4, c5, c6, c7, c8, c9, c10].drop 0).take (Tryd.prog.cellsOf 3)) = xs[0]? := hall 0 _ rfl
  have t1 : rd enc W n 2 (([c0, c1, c2, c3, c4, c5, c6, c7, c8, c9, c10].drop 1).take (Tryd.prog.cellsOf 2)) = xs[1]? := hall 1 _ rfl
  have t2 : rd enc W n 28 (([c0, c1, c2, c3, c4, c5, c6, c7, c8, c9, c10].drop 2).take (Tryd.prog.cellsOf 28)) = xs[2]? := hall 2 _ rfl
  have t3 : rd enc W n 2 (([c0, c1, c2, c3, c4, c5, c6, c7, c8, c9, c10].drop 3).take (Tryd.prog.cellsOf 2)) = xs[3]? := hall 3 _ rfl
  have t4 : rd enc W n 2 (([c0, c1, c2, c3, c4, c5, c6, c7, c8, c9, c10].drop 4).take (Tryd.prog.cellsOf 2)) = xs[4]? := hall 4 _ rfl
  have t5 : rd enc W n 3 (([c0, c1, c2, c3, c4, c5, c6, c7, c8, c9, c10].drop 5).take (Tryd.prog.cellsOf 3)) = xs[5]? := hall 5 _ rfl
  have t6 : rd enc W n 22 (([c0, c1, c2, c3, c4, c5, c6, c7, c8, c9, c10].drop 6).take (Tryd.prog.cellsOf 22)) = xs[6]? := hall 6 _ rfl
  have t7 : rd enc W n 31 (([c0, c1, c2, c3, c4, c5, c6, c7, c8, c9, c10].drop 7).take (Tryd.prog.cellsOf 31)) = xs[7]? := hall 7 _ rfl
  rw [cells_int, e0] at t0
  rw [cells_i64, e1] at t1
  rw [cells_sch, e2] at t2
  rw [cells_i64, e3] at t3
  rw [cells_i64, e4] at t4
  rw [cells_int, e5] at t5
  rw [cells_bytes, e6] at t6
  rw [cells_ix, e7] at t7
  simp only [List.drop_zero, List.drop_succ_cons, List.take_succ_cons, List.take_zero] at t0 t1 t2 t3 t4 t5 t6 t7
  obtain ⟨k0, q0, _, _⟩ := DataW.trod_int Tryd.underlying3 t0
  obtain ⟨k1, q1, _, _⟩ := DataW.trod_int Tryd.underlying2 t1
  obtain ⟨k3, q3, _, _⟩ := DataW.trod_int Tryd.underlying2 t3
  obtain ⟨k4, q4, _, _⟩ := DataW.trod_int Tryd.underlying2 t4
  obtain ⟨k5, q5, _, _⟩ := DataW.trod_int Tryd.underlying3 t5
  obtain ⟨zs, n2, _, rfl, _, hzl, hzall⟩ := DataW.trod_struct Tryd.underlying28 t2
  have hzl : zs.length = 1 := hzl
  obtain ⟨z0, f0, g0⟩ := xs_get (i := 0) hzl (by omega)
  have u0 : rd enc W n2 26 (([c2].drop 0).take (Tryd.prog.cellsOf 26)) = zs[0]? := hzall 0 _ rfl
  rw [cells_cols, f0] at u0
  simp only [List.drop_zero, List.take_succ_cons, List.take_zero] at u0
  obtain ⟨A, cA, cols, hA, hsch, hwf, hnm⟩ := open_cols N hN _ _ _ u0 (part_bulk g0 (part_bulk m2 hb))
  obtain ⟨B, cB, bl, hB, hrB, _, _, hdB⟩ := open_bytes_at Tryd.underlying22 Tryd.underlying5 cells_u8 t6
  obtain ⟨ws, n7, _, rfl, _, hwl, hwall⟩ := DataW.trod_struct Tryd.underlying31 t7
  have hwl : ws.length = 4 := hwl
  obtain ⟨v0, r0, p0⟩ := xs_get (i := 0) hwl (by omega)
  obtain ⟨v1, r1, p1⟩ := xs_get (i := 1) hwl (by omega)
  obtain ⟨v2, r2, p2⟩ := xs_get (i := 2) hwl (by omega)
  obtain ⟨v3, r3, p3⟩ := xs_get (i := 3) hwl (by omega)
  have w0 : rd enc W n7 2 (([c7, c8, c9, c10].drop 0).take (Tryd.prog.cellsOf 2)) = ws[0]? := hwall 0 _ rfl
  have w1 : rd enc W n7 2 (([c7, c8, c9, c10].drop 1).take (Tryd.prog.cellsOf 2)) = ws[1]? := hwall 1 _ rfl
  have w2 : rd enc W n7 2 (([c7, c8, c9, c10].drop 2).take (Tryd.prog.cellsOf 2)) = ws[2]? := hwall 2 _ rfl
  have w3 : rd enc W n7 29 (([c7, c8, c9, c10].drop 3).take (Tryd.prog.cellsOf 29)) = ws[3]? := hwall 3 _ rfl
  rw [cells_i64, r0] at w0
  rw [cells_i64, r1] at w1
  rw [cells_i64, r2] at w2
  rw [cells_ents, r3] at w3
  simp only [List.drop_zero, List.drop_succ_cons, List.take_succ_cons, List.take_zero] at w0 w1 w2 w3
  obtain ⟨j0, s0, _, _⟩ := DataW.trod_int Tryd.underlying2 w0
  obtain ⟨j1, s1, _, _⟩ := DataW.trod_int Tryd.underlying2 w1
  obtain ⟨j2, s2, _, _⟩ := DataW.trod_int Tryd.underlying2 w2
  obtain ⟨E, cE, ents, hE, hrE, hlE⟩ := open_ents N _ _ _ w3 (part_bulk p3 (part_bulk m7 hb))
  simp only [List.cons.injEq, and_true] at q0 q1 q3 q4 q5 hA hB s0 s1 s2 hE
  subst q0 q1 q3 q4 q5 hA hB s0 s1 s2 hE
  have hlB : bl.length ≤ N := by
    have hb6 := part_bulk m6 hb
    rcases hdB with ⟨_, rfl⟩ | ⟨xs', ys', e, hxs', _⟩
    · simp
    · rw [e] at hb6
      simp only [Rows.uptoBulk] at hb6
      have := bulk_length xs'
      omega
  refine ⟨A, cA, B, cB, E, cE, ⟨k0, k1, cols, k3, k4, k5, bl, j0, j1, j2, ents⟩, by rw [hca']; rfl, ⟨hsch, hrB, fun a e hn => ?_, hrE, fun a e hn => ?_, by show bl.length ≤ _; omega, by show ents.length ≤ _; omega⟩, ⟨hwf, fun y hy => by have := hnm y hy; omega⟩⟩
  · exact row_low hrB (fun h0 => hn (by have := congrArg List.length h0; rw [u8s_length] at this; exact List.eq_nil_of_length_eq_zero (by simpa using this))) a e
  · exact row_low hrE (fun h0 => hn (by have := congrArg List.length h0; rw [entCells_length] at this; have h3 : 3 * ents.length = 0 := this; exact List.eq_nil_of_length_eq_zero (show ents.length = 0 by omega))) a e
end
end Go.Proofs.YtbhhhkilljnkfaaDoor
