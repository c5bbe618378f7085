/-
  The walk of the reference's bytesOf. Condition: the columns may be, the numbers are of 64 bits. The walks of the reference's Check and Encode of a schema. Condition: the slice stands for columns, its capacity is Go's, the numbers are of 64 bits, the tables of unicode/utf8 are as laid. The walks of the document's Update and Sum of the check. Condition: the slice reads as a list of bytes. The walks of the reference's within, index and Wrong of a frame. Condition: the frame reads, its capacity is Go's, the tables of unicode/utf8 are as laid. The walks of the reference's numbers and Checked. Condition: the slices read, the numbers are of 63 bits.
-/
import Derived.Test.YtbhhhkilljnkfaaGreatDoorG5
import Derived.Test.YtbhhhkilljnkfaaGreatDoorG13
import Derived.Test.YtbhhhkilljnkfaaGreatDoorG6
import Derived.Test.YtbhhhkilljnkfaaGreatDoorG7
import Derived.Test.YtbhhhkilljnkfaaGreatDoorG8
/- The walk of the reference's bytesOf. Condition: the columns may be, the numbers are of 64 bits. -/
namespace Go.Proofs.YtbhhhkilljnkfaaGreatDoor
open Go.RowKit Go.BigFrame
set_option linter.unusedVariables false
set_option linter.unusedSimpArgs false
attribute [local go_sem] run_storeF

/-- may a column be put, and its default, where it has one? -/
def Col.fine (c : Col) : Prop := tyCheck c.ty 1 = 0 ∧ c.dflt.wf ∧ (c.has = true → vaCheck c.dflt 1 = 0)

set_option maxRecDepth 20000 in
set_option maxHeartbeats 4000000 in
theorem refBytesOf_calls (A : Option Addr) (c : Nat) (l : List Col) (w : World) (hs : SchS w (fun b => b < w.heap.size) A l) (hc : ∀ j (h : j < l.length), (l[j]'h).fine) (hlen : (putS l).length ≤ 140737488354000) :
    Calls Tryz.prog 60 #[.agg #[.slice A l.length c]] w (NewB w (putS l)) := by
  obtain ⟨W0, hW0⟩ : ∃ W0, W0 = w.alloc (.cells #[.slice A l.length c] 24) := ⟨_, rfl⟩
  have hk0 : Keeps w W0 := by rw [hW0]; exact (Keeps.refl w).alloc _
  have hb0 : W0.heap[w.heap.size]? = some (.cells #[.slice A l.length c] 24) := by rw [hW0]; exact obj_new w _
  have hil := hs.len
  have hp := ref3Put_calls l.length (by omega) W0
  have hP : putS l = leb l.length ++ putCols l := rfl
  generalize putS l = P at hP hlen ⊢
  have hlenp : (leb l.length).length + (putCols l).length ≤ 140737488354000 := by rw [hP, List.length_append] at hlen; exact hlen
  have HS := Lib.hid hs
  have HC := Lib.hid hc
  have HP := Lib.hid hp
  have HPP := Lib.hid hP
  have HLP := Lib.hid hlenp
  have HK0 := Lib.hid hk0
  have HB0 := Lib.hid hb0
  clear hs hc hp hP hlenp hk0 hb0 hlen
  generalize hN : l.length = N at hil HP HPP HLP HB0 hW0 ⊢
  have HN := Lib.hid hN
  clear hN
  go_enter Tryz.func60, Tryz.ntmps60
  go_wp2_with fail
  rw [← hW0]
  clear hW0
  refine HP.out.mono ?_
  rintro e w1 ⟨v1, rfl, hown1, hk1⟩
  have hb1 : w1.heap[w.heap.size]? = some (.cells #[.slice A N c] 24) := by rw [hk1.below.block _ (obj_lt HB0.out)]; exact HB0.out
  obtain ⟨t0, _⟩ := cells1 hb1
  have u1 := obj_lt hb1
  obtain ⟨A1, M1, c1, rfl, hown1'⟩ := (hown1.weaken HK0.out.size).named (l' := leb N) rfl
  have HO1 := Lib.hid hown1'
  have HB1 := Lib.hid hb1
  have HK1 := Lib.hid (HK0.out.trans hk1)
  clear hown1 hown1' hk1 HP hb1 HB0
  go_wp2_with fail
  clear t0 u1
  go_loopw [3, 4] (fun b j wr => ∃ (m : Nat) (A' : Option Addr) (c' M : Nat), m ≤ N ∧ j = .int .i64 (m : Int) ∧ b = .slice A' M c' ∧ OwnB 5 wr w.heap.size (.slice A' M c') (leb N ++ putCols (l.take m)) ∧ wr.heap[w.heap.size]? = some (.cells #[.slice A N c] 24) ∧ Keeps w wr) (fun _ j _ => N - (intOf j).toNat)
  case atStart => exact ⟨0, A1, c1, M1, Nat.zero_le _, rfl, rfl, by simpa [putCols] using HO1.out, HB1.out, HK1.out⟩
  case round =>
    obtain ⟨m, A', c', M, hm, rfl, rfl, hown, hbs, hk⟩ := hrel
    obtain ⟨t0, _⟩ := cells1 hbs
    have u0 := obj_lt hbs
    by_cases hlt : m < N
    · have hlt1 : m < l.length := by rw [HN.out]; exact hlt
      obtain ⟨ad, x0, x1, x2, x3, x4, x5, x6, x7, x8, rfl, _, hcol, c0, c1, c2, c3, c4, c5, c6, c7, c8⟩ := (HS.out.later hk.below).get m hlt1
      have hcp := HC.out m hlt1
      have htk := putCols_take l m hlt1
      have hle := putCols_le l (m + 1)
      rw [htk, List.length_append] at hle
      obtain ⟨y, hy⟩ : ∃ y, y = l[m]'hlt1 := ⟨_, rfl⟩
      rw [← hy] at hcol hcp htk hle
      clear hy hlt1
      obtain ⟨⟨A2, k2, e2⟩, A8, k8, e8⟩ := hcol.form
      have hnm := hcol.nm; have htkd := hcol.tk; have hhs := hcol.hs; have hdk := hcol.dk; have hdi := hcol.di; have hdf := hcol.df; have hdt := hcol.dt
      subst hnm htkd e2 hhs hdk hdi hdf hdt e8
      obtain ⟨W1, hW1⟩ : ∃ W1, W1 = wr.alloc (.cells #[.string y.name, .int .i64 y.ty.kind, .slice A2 y.ty.of.length k2, .bool y.has, .int .i64 y.dflt.kind, .int .i64 y.dflt.int, .float .f64 y.dflt.fl, .string y.dflt.text, .slice A8 y.dflt.items.length k8] 73) := ⟨_, rfl⟩
      have hkw1 : Keeps wr W1 := by rw [hW1]; exact (Keeps.refl wr).alloc _
      have hbc : W1.heap[wr.heap.size]? = some (.cells #[.string y.name, .int .i64 y.ty.kind, .slice A2 y.ty.of.length k2, .bool y.has, .int .i64 y.dflt.kind, .int .i64 y.dflt.int, .float .f64 y.dflt.fl, .string y.dflt.text, .slice A8 y.dflt.items.length k8] 73) := by rw [hW1]; exact obj_new wr _
      have hpl : (putCol y).length = (textBytes y.name).length + ((putTy y.ty).length + (1 + (if y.has = true then putVa y.dflt else []).length)) := by
        unfold putCol; rw [List.length_append, List.length_append, List.length_cons]; omega
      have htl : (textBytes y.name).length = (leb y.name.size).length + y.name.size := by unfold textBytes; rw [List.length_append]; rfl
      have hlp := HLP.out
      have hll : (leb N ++ putCols (l.take m)).length = (leb N).length + (putCols (l.take m)).length := List.length_append
      have hnb : y.name.size ≤ 140737488354000 := by omega
      have hput := ref3Put_calls y.name.size (by omega) W1
      have hvb : ∀ k, (Value.slice A' M c').ownBlock = some k → k < wr.heap.size := fun k e => own_lt hown k e
      have HPN := Lib.hid hput
      have HVB := Lib.hid hvb
      have HOWN := Lib.hid hown
      have HBS := Lib.hid hbs
      have HBC := Lib.hid hbc
      have HTK := Lib.hid htk
      have HCOL := Lib.hid hcol
      have HK := Lib.hid hk
      have HCP := Lib.hid hcp
      have HPL := Lib.hid hpl
      have HTL := Lib.hid htl
      have HLE := Lib.hid hle
      have HLL := Lib.hid hll
      have HKW1 := Lib.hid hkw1
      clear hput hvb hbs hbc htk hcol hk hcp hown hkw1 hle hlp hll hpl htl
      go_wp2_with fail
      rw [← hW1]
      clear hW1 t0 u0 c0 c1 c2 c3 c4 c5 c6 c7 c8
      refine HPN.out.mono ?_
      rintro e w2 ⟨vn, rfl, hownN, hk2⟩
      have hb2 := (hk2.below.block _ (obj_lt HBC.out)).trans HBC.out
      obtain ⟨⟨d0, d1, d2, d3, d4, d5, d6, d7, d8⟩, _⟩ := cells9 hb2
      have u2 := obj_lt hb2
      have hk02 := HKW1.out.trans hk2
      have htb := refTypeBytes_calls 4 y.ty 1 _ w2 (by omega) HCP.out.1 (HCOL.out.ty.later hk02.below).at
      obtain ⟨An, Mn, cn, rfl, hownN'⟩ := hownN.named (l' := leb y.name.size) rfl
      have HTB := Lib.hid htb
      have HON := Lib.hid hownN'
      have HB2 := Lib.hid hb2
      have HK2 := Lib.hid hk02
      clear htb hownN hownN' hb2 hk02 hk2 HPN HBC
      go_wp2_with fail
      refine HTB.out.mono ?_
      rintro e w3 ⟨vt, rfl, hownT, hk3⟩
      clear d0 d1 d2 d3 d4 d5 d6 d7 d8 u2
      have hb3 := (hk3.below.block _ (obj_lt HB2.out)).trans HB2.out
      obtain ⟨⟨d0, d1, d2, d3, d4, d5, d6, d7, d8⟩, _⟩ := cells9 hb3
      have u3 := obj_lt hb3
      obtain ⟨At, Mt, ct, rfl, hownT'⟩ := hownT.named (l' := putTy y.ty) rfl
      have HOT := Lib.hid hownT'
      have HB3 := Lib.hid hb3
      have HK3 := Lib.hid (HK2.out.trans hk3)
      have hs23 := HK2.out.size
      have hs3 := hk3.size
      have HSZ := Lib.hid (show wr.heap.size ≤ w2.heap.size ∧ w2.heap.size ≤ w3.heap.size from ⟨hs23, hs3⟩)
      obtain ⟨An2, Mn2, cn2, en2, HMN, HRN⟩ := (HON.out.below hk3).seen
      injection en2 with g1 g2 g3
      subst g1 g2 g3
      have HOB := Lib.hid (HOWN.out.below HK3.out)
      clear hownT hownT' hb3 hk3 hs23 hs3 HTB HB2
      -- b, n
      go_wp2_with (at_builtin; refine wpList_append_bytes (w0 := w3) w.heap.size rfl _ _ 25 5 rfl Tryz.underlying25 info_u8b (.slice A' M c') (leb N ++ putCols (l.take m)) (leb y.name.size) rfl HOB.out An cn (by rw [HMN.out]; rfl) HRN.out ?c2 ?c3 (Below.refl _ _) ?_)
      case c2 => have h1 := HLP.out; have h2 := HLL.out; have h3 := HPL.out; have h4 := HLE.out; have h5 := HTL.out; omega
      case c3 => have h1 := HK.out.size; have h2 := HSZ.out; omega
      intro v4 w4 hown4 _ hg4 ha4
      obtain ⟨A4, M4, c4, rfl, hown4'⟩ := hown4.named (l' := leb N ++ putCols (l.take m) ++ leb y.name.size) (by first | rfl | simp only [List.append_assoc, List.cons_append, List.nil_append])
      have hG4 := Grows.of hown4' hg4 ha4
      have hb4 := hG4.touch.obj HB3.out (fun e => own_obj_ne HOB.out HB3.out (by decide) e)
      clear d0 d1 d2 d3 d4 d5 d6 d7 d8 u3
      obtain ⟨⟨d0, d1, d2, d3, d4, d5, d6, d7, d8⟩, _⟩ := cells9 hb4
      have u4 := obj_lt hb4
      have HG4 := Lib.hid hG4
      clear hown4 hown4' hg4 ha4 hG4 hb4
      -- the name
      go_wp2_with (at_builtin; refine wpList_append_text w.heap.size rfl _ _ 25 9 5 rfl Tryz.underlying25 Tryz.underlying9 info_u8b (.slice A4 M4 c4) (leb N ++ putCols (l.take m) ++ leb y.name.size) rfl HG4.out.own y.name rfl ?e1 ?e2 ?_)
      case e1 => have h1 := HLP.out; have h2 := HLL.out; have h3 := HPL.out; have h4 := HLE.out; have h5 := HTL.out; rw [List.length_append]; omega
      case e2 => have h1 := HK.out.size; have h2 := HSZ.out; have h3 := HG4.out.touch.size; omega
      intro v5 w5 hown5 hg5 ha5
      obtain ⟨A5, M5, c5, rfl, hown5'⟩ := hown5.named (l' := leb N ++ putCols (l.take m) ++ textBytes y.name) (by unfold textBytes; first | rfl | simp only [List.append_assoc, List.cons_append, List.nil_append])
      have hG5 := HG4.out.trans (Grows.of hown5' hg5 ha5)
      have hb5 := hG5.touch.obj HB3.out (fun e => own_obj_ne HOB.out HB3.out (by decide) e)
      clear d0 d1 d2 d3 d4 d5 d6 d7 d8 u4
      obtain ⟨⟨d0, d1, d2, d3, d4, d5, d6, d7, d8⟩, _⟩ := cells9 hb5
      have u5 := obj_lt hb5
      have hT5 : OwnB 5 w5 w2.heap.size (.slice At Mt ct) (putTy y.ty) := hG5.touch.ownB HOT.out (fun k e e' => by have h1 := HOT.out.ge k e; have h2 := HVB.out k e'; have h3 := HSZ.out; omega)
      obtain ⟨At2, Mt2, ct2, et2, HMT, HRT⟩ := hT5.seen
      injection et2 with g1 g2 g3
      subst g1 g2 g3
      have HG5 := Lib.hid hG5
      clear hown5 hown5' hg5 ha5 hG5 hb5 hT5 HG4
      -- the type
      go_wp2_with (at_builtin; refine wpList_append_bytes (w0 := w5) w.heap.size rfl _ _ 25 5 rfl Tryz.underlying25 info_u8b (.slice A5 M5 c5) (leb N ++ putCols (l.take m) ++ textBytes y.name) (putTy y.ty) rfl HG5.out.own At ct (by rw [HMT.out]; rfl) HRT.out ?f2 ?f3 (Below.refl _ _) ?_)
      case f2 => have h1 := HLP.out; have h2 := HLL.out; have h3 := HPL.out; have h4 := HLE.out; rw [List.length_append]; omega
      case f3 => have h1 := HK.out.size; have h2 := HSZ.out; have h3 := HG5.out.touch.size; omega
      intro v6 w6 hown6 _ hg6 ha6
      obtain ⟨A6, M6, c6, rfl, hown6'⟩ := hown6.named (l' := leb N ++ putCols (l.take m) ++ textBytes y.name ++ putTy y.ty) (by first | rfl | simp only [List.append_assoc, List.cons_append, List.nil_append])
      have hG6 := HG5.out.trans (Grows.of hown6' hg6 ha6)
      have hb6 := hG6.touch.obj HB3.out (fun e => own_obj_ne HOB.out HB3.out (by decide) e)
      clear d0 d1 d2 d3 d4 d5 d6 d7 d8 u5
      obtain ⟨⟨d0, d1, d2, d3, d4, d5, d6, d7, d8⟩, _⟩ := cells9 hb6
      have u6 := obj_lt hb6
      have HG6 := Lib.hid hG6
      clear hown6 hown6' hg6 ha6 hG6 hb6 HG5
      cases hh : y.has with
      | true =>
        rw [hh] at d3
        have HH := Lib.hid hh
        clear hh
        obtain ⟨W6, hW6⟩ : ∃ W6, W6 = w6.alloc (.cells #[.int .u8 1] 5) := ⟨_, rfl⟩
        have hk6 : Keeps w6 W6 := by rw [hW6]; exact (Keeps.refl w6).alloc _
        have HR6 := Lib.hid (show Reads W6 (some ⟨w6.heap.size, 0, none⟩) [1] by rw [hW6]; exact Reads.new _ _ _ _ _ rfl)
        have HK6 := Lib.hid hk6
        have HW6 := Lib.hid hW6
        clear hk6 hW6
        go_wp2_with (first | (go_at_call 81; refine (refFlag_calls _ _).mono ?_; rintro e w7 ⟨rfl, rfl⟩) | (at_builtin; rw [← HW6.out]; refine wpList_append_bytes (w0 := W6) w.heap.size rfl _ _ 25 5 rfl Tryz.underlying25 info_u8b (.slice A6 M6 c6) (leb N ++ putCols (l.take m) ++ textBytes y.name ++ putTy y.ty) [1] rfl (HG6.out.own.below HK6.out) (some ⟨w6.heap.size, 0, none⟩) 1 rfl HR6.out ?g2 ?g3 (Below.refl _ _) ?_))
        case g2 => have h1 := HLP.out; have h2 := HLL.out; have h3 := HPL.out; have h4 := HLE.out; rw [List.length_append, List.length_append]; simp only [List.length_cons, List.length_nil]; omega
        case g3 => have h1 := HK.out.size; have h2 := HSZ.out; have h3 := HG6.out.touch.size; have h4 := HK6.out.size; omega
        intro v7 w7 hown7 _ hg7 ha7
        obtain ⟨A7, M7, c7, rfl, hown7'⟩ := hown7.named (l' := leb N ++ putCols (l.take m) ++ textBytes y.name ++ putTy y.ty ++ [1]) (by first | rfl | simp only [List.append_assoc, List.cons_append, List.nil_append])
        have hG7 := HG6.out.trans (Grows.first HK6.out (Grows.of hown7' hg7 ha7))
        have hb7 := hG7.touch.obj HB3.out (fun e => own_obj_ne HOB.out HB3.out (by decide) e)
        clear d0 d1 d2 d3 d4 d5 d6 d7 d8 u6
        obtain ⟨⟨d0, d1, d2, d3, d4, d5, d6, d7, d8⟩, _⟩ := cells9 hb7
        rw [HH.out] at d3
        have u7 := obj_lt hb7
        have hdv : VaAt w7 (.agg #[.int .i64 y.dflt.kind, .int .i64 y.dflt.int, .float .f64 y.dflt.fl, .string y.dflt.text, .slice A8 y.dflt.items.length k8]) y.dflt := ((HCOL.out.dv.later HK3.out.below).touch hG7.touch (fun b hb e => by have := HOWN.out.ge b e; omega)).at
        have hcv := refValueBytes_calls (SizeOf.sizeOf y.dflt + 1) y.dflt _ 1 w7 (by omega) HCP.out.2.1 (HCP.out.2.2 HH.out) hdv (by have h1 := HLP.out; have h2 := HLL.out; have h3 := HPL.out; have h4 := HLE.out; rw [HH.out, if_pos rfl] at h3; omega)
        have HCV := Lib.hid hcv
        have HG7 := Lib.hid hG7
        clear hcv hdv hown7 hown7' hg7 ha7 hG7 hb7 HG6
        go_wp2_with fail
        refine HCV.out.mono ?_
        rintro e w8 ⟨v8, rfl, hown8, hk8⟩
        obtain ⟨Av, Mv, cv, rfl, HMV, HRV⟩ := hown8.seen
        have HG8 := Lib.hid (HG7.out.later hk8)
        clear hown8 hk8 HCV HG7 d0 d1 d2 d3 d4 d5 d6 d7 d8 u7
        go_wp2_with (at_builtin; refine wpList_append_bytes (w0 := w8) w.heap.size rfl _ _ 25 5 rfl Tryz.underlying25 info_u8b (.slice A7 M7 c7) (leb N ++ putCols (l.take m) ++ textBytes y.name ++ putTy y.ty ++ [1]) (putVa y.dflt) rfl HG8.out.own Av cv (by rw [HMV.out]; rfl) HRV.out ?i2 ?i3 (Below.refl _ _) ?_)
        case i2 => have h1 := HLP.out; have h2 := HLL.out; have h3 := HPL.out; have h4 := HLE.out; rw [HH.out, if_pos rfl] at h3; rw [List.length_append, List.length_append, List.length_append]; simp only [List.length_cons, List.length_nil]; omega
        case i3 => have h1 := HK.out.size; have h2 := HSZ.out; have h3 := HG8.out.touch.size; omega
        intro v9 w9 hown9 _ hg9 ha9
        have hE : leb N ++ putCols (l.take m) ++ textBytes y.name ++ putTy y.ty ++ [1] ++ putVa y.dflt = leb N ++ putCols (l.take (m + 1)) := by
          rw [HTK.out]; unfold putCol; rw [HH.out]; simp
        obtain ⟨A9, M9, c9, rfl, hown9'⟩ := hown9.named ((by first | rfl | simp only [List.append_assoc, List.cons_append, List.nil_append] : _ = leb N ++ putCols (l.take m) ++ textBytes y.name ++ putTy y.ty ++ [1] ++ putVa y.dflt).trans hE)
        have hG9 := HG8.out.trans (Grows.of hown9' hg9 ha9)
        have hbz := (hG9.touch.obj ((HK3.out.below.block _ (obj_lt HBS.out)).trans HBS.out) (fun e => own_obj_ne HOWN.out HBS.out (by decide) e))
        have HG9 := Lib.hid hG9
        have HBZ := Lib.hid hbz
        clear hown9 hown9' hg9 ha9 hG9 hE hbz HG8
        go_wp2
        exact ⟨⟨m + 1, A9, c9, M9, by omega, by go_num, rfl, HG9.out.own, HBZ.out, (HK.out.trans HK3.out).grow HG9.out HOWN.out.ge⟩, by simp [intOf]; omega⟩
      | false =>
        rw [hh] at d3
        have HH := Lib.hid hh
        clear hh
        obtain ⟨W6, hW6⟩ : ∃ W6, W6 = w6.alloc (.cells #[.int .u8 0] 5) := ⟨_, rfl⟩
        have hk6 : Keeps w6 W6 := by rw [hW6]; exact (Keeps.refl w6).alloc _
        have HR6 := Lib.hid (show Reads W6 (some ⟨w6.heap.size, 0, none⟩) [0] by rw [hW6]; exact Reads.new _ _ _ _ _ rfl)
        have HK6 := Lib.hid hk6
        have HW6 := Lib.hid hW6
        clear hk6 hW6
        go_wp2_with (first | (go_at_call 81; refine (refFlag_calls _ _).mono ?_; rintro e w7 ⟨rfl, rfl⟩) | (at_builtin; rw [← HW6.out]; refine wpList_append_bytes (w0 := W6) w.heap.size rfl _ _ 25 5 rfl Tryz.underlying25 info_u8b (.slice A6 M6 c6) (leb N ++ putCols (l.take m) ++ textBytes y.name ++ putTy y.ty) [0] rfl (HG6.out.own.below HK6.out) (some ⟨w6.heap.size, 0, none⟩) 1 rfl HR6.out ?j2 ?j3 (Below.refl _ _) ?_))
        case j2 => have h1 := HLP.out; have h2 := HLL.out; have h3 := HPL.out; have h4 := HLE.out; rw [List.length_append, List.length_append]; simp only [List.length_cons, List.length_nil]; omega
        case j3 => have h1 := HK.out.size; have h2 := HSZ.out; have h3 := HG6.out.touch.size; have h4 := HK6.out.size; omega
        intro v7 w7 hown7 _ hg7 ha7
        have hE : leb N ++ putCols (l.take m) ++ textBytes y.name ++ putTy y.ty ++ [0] = leb N ++ putCols (l.take (m + 1)) := by
          rw [HTK.out]; unfold putCol; rw [HH.out]; simp
        obtain ⟨A7, M7, c7, rfl, hown7'⟩ := hown7.named ((by first | rfl | simp only [List.append_assoc, List.cons_append, List.nil_append] : _ = leb N ++ putCols (l.take m) ++ textBytes y.name ++ putTy y.ty ++ [0]).trans hE)
        have hG7 := HG6.out.trans (Grows.first HK6.out (Grows.of hown7' hg7 ha7))
        have hb7 := hG7.touch.obj HB3.out (fun e => own_obj_ne HOB.out HB3.out (by decide) e)
        have hbz := (hG7.touch.obj ((HK3.out.below.block _ (obj_lt HBS.out)).trans HBS.out) (fun e => own_obj_ne HOWN.out HBS.out (by decide) e))
        clear d0 d1 d2 d3 d4 d5 d6 d7 d8 u6
        obtain ⟨⟨d0, d1, d2, d3, d4, d5, d6, d7, d8⟩, _⟩ := cells9 hb7
        rw [HH.out] at d3
        have u7 := obj_lt hb7
        have HG7 := Lib.hid hG7
        have HBZ := Lib.hid hbz
        clear hown7 hown7' hg7 ha7 hG7 hE hbz HG6 hb7
        go_wp2
        exact ⟨⟨m + 1, A7, c7, M7, by omega, by go_num, rfl, HG7.out.own, HBZ.out, (HK.out.trans HK3.out).grow HG7.out HOWN.out.ge⟩, by simp [intOf]; omega⟩
    · have e8 : l.take m = l := List.take_of_length_le (by rw [HN.out]; omega)
      rw [e8] at hown
      have HO := Lib.hid hown
      have HK := Lib.hid hk
      clear hown hk e8 hbs
      go_wp2
      go_ret
      exact ⟨_, rfl, by rw [HPP.out]; exact HO.out, HK.out⟩
end Go.Proofs.YtbhhhkilljnkfaaGreatDoor
/- The walks of the reference's Check and Encode of a schema. Condition: the slice stands for columns, its capacity is Go's, the numbers are of 64 bits, the tables of unicode/utf8 are as laid. -/
namespace Go.Proofs.YtbhhhkilljnkfaaGreatDoor
open Go.RowKit Go.BigFrame
set_option linter.unusedVariables false
set_option linter.unusedSimpArgs false
attribute [local go_sem] run_storeF

theorem col_fine {ns : List ByteArray} {c : Col} (h : colCheck ns c = 0) (hw : c.dflt.wf) : c.fine :=
  ⟨(colCheck_ok h).2.2.1, hw, fun hh => ((colCheck_ok h).2.2.2.2 hh).1⟩

set_option maxRecDepth 20000 in
set_option maxHeartbeats 4000000 in
theorem refCheck_calls (A : Option Addr) (c : Nat) (l : List Col) (w : World) (hcap : l.length ≤ c) (hs : SchS w (fun b => b < w.heap.size) A l) (hw : ∀ x ∈ l, x.dflt.wf) (htb : Tabs w) :
    Calls Tryz.prog 40 #[.agg #[.slice A l.length c]] w fun e w' => e = .returned (.int .i64 (schCheck l)) ∧ Keeps w w' := by
  obtain ⟨R, hR⟩ : ∃ R, R = schCheck l := ⟨_, rfl⟩
  rw [← hR]
  unfold schCheck at hR
  have hil := hs.len
  by_cases h0 : l.length = 0
  · rw [if_pos h0] at hR
    subst hR
    rw [h0]
    clear hs hw htb h0 hil hcap
    go_enter Tryz.func40, Tryz.ntmps40
    go_wp2
    go_ret
    exact ⟨rfl, (Keeps.refl w).alloc _⟩
  by_cases h16 : 16 < l.length
  · rw [if_neg h0, if_pos h16] at hR
    subst hR
    have q0 : ((l.length : Int) == 0) = false := by rw [beq_eq_false_iff_ne]; omega
    clear hs hw htb h0 hcap
    generalize l.length = N at *
    go_enter Tryz.func40, Tryz.ntmps40
    go_wp2
    go_ret
    exact ⟨rfl, (Keeps.refl w).alloc _⟩
  rw [if_neg h0, if_neg h16] at hR
  have hl16 : l.length ≤ 16 := by omega
  have hl0 : 1 ≤ l.length := by omega
  have q0 : ((l.length : Int) == 0) = false := by rw [beq_eq_false_iff_ne]; omega
  obtain ⟨W0, hW0⟩ : ∃ W0, W0 = w.alloc (.cells #[.slice A l.length c] 24) := ⟨_, rfl⟩
  have hk0 : Keeps w W0 := by rw [hW0]; exact (Keeps.refl w).alloc _
  have hb0 : W0.heap[w.heap.size]? = some (.cells #[.slice A l.length c] 24) := by rw [hW0]; exact obj_new w _
  have HR := Lib.hid hR
  have HS := Lib.hid hs
  have HW := Lib.hid hw
  have HTB := Lib.hid htb
  have HK0 := Lib.hid hk0
  have HB0 := Lib.hid hb0
  clear hR hs hw htb h0 h16 hil hk0 hb0
  generalize hLn : l.length = N at hl16 hl0 q0 hcap hW0 HB0 ⊢
  have HL := Lib.hid hLn
  clear hLn
  have HW0 := Lib.hid hW0
  clear hW0
  go_enter Tryz.func40, Tryz.ntmps40
  go_wp2_with fail
  go_loopw [3] (fun j wr => ∃ m : Nat, m ≤ N ∧ j = .int .i64 (m : Int) ∧ colsCheck [] l = colsCheck ((l.take m).map Col.name) (l.drop m) ∧ Keeps W0 wr) (fun j _ => N - (intOf j).toNat)
  case atStart => exact ⟨0, Nat.zero_le _, rfl, rfl, by rw [HW0.out]; exact Keeps.refl _⟩
  case round =>
    obtain ⟨m, hm, rfl, hres, hkp⟩ := hrel
    have hkw : Keeps w wr := HK0.out.trans hkp
    have hbs := (hkp.below.block _ (obj_lt HB0.out)).trans HB0.out
    obtain ⟨t0, _⟩ := cells1 hbs
    have u0 := obj_lt hbs
    by_cases hlt : m < N
    · have hlt1 : m < l.length := by rw [HL.out]; exact hlt
      have hss := HS.out.later hkw.below
      have hssd := (HS.out.later (hkw.trans (Keeps.drew wr)).below).mono (S' := fun b => b < wr.drew.heap.size) fun b _ hb => by have := (hkw.trans (Keeps.drew wr)).size; omega
      have htake := hssd.take m
      obtain ⟨ad, x0, x1, x2, x3, x4, x5, x6, x7, x8, rfl, _, hcol, c0, c1, c2, c3, c4, c5, c6, c7, c8⟩ := hss.get m hlt1
      have hdr := colsCheck_drop l m hlt1
      rw [hdr] at hres
      have hcold : ColC wr.drew (fun b => b < wr.drew.heap.size) x0 x1 x2 x3 x4 x5 x6 x7 x8 (l[m]'hlt1) := (hcol.later (Keeps.drew wr).below).mono fun b _ hb => by have h1 := hkw.size; have h2 : wr.drew.heap.size = wr.heap.size := rfl; omega
      have hlen : (l.take m).length = m := by rw [List.length_take]; omega
      have hc := refColumn_calls (some ad) c (l.take m) x0 x1 x2 x3 x4 x5 x6 x7 x8 (l[m]'hlt1) wr.drew htake hcold (HTB.out.below (hkw.trans (Keeps.drew wr)).below)
      rw [hlen] at hc
      obtain ⟨⟨A2, k2, e2⟩, A8, k8, e8⟩ := hcol.form
      have hnm := hcol.nm; have htkd := hcol.tk; have hhs := hcol.hs; have hdk := hcol.dk; have hdi := hcol.di; have hdf := hcol.df; have hdt := hcol.dt
      subst hnm htkd e2 hhs hdk hdi hdf hdt e8
      have HRES := Lib.hid hres
      have HKP := Lib.hid hkp
      have HKW := Lib.hid hkw
      clear hres hkp hkw hbs hss hssd htake hdr hcol hcold hlen
      generalize colCheck ((l.take m).map Col.name) (l[m]'hlt1) = E at hc HRES
      generalize (l[m]'hlt1).name = y0 at c0 hc
      generalize (l[m]'hlt1).ty.kind = y1 at c1 hc
      generalize (l[m]'hlt1).ty.of.length = y2 at c2 hc
      generalize (l[m]'hlt1).has = y3 at c3 hc
      generalize (l[m]'hlt1).dflt.kind = y4 at c4 hc
      generalize (l[m]'hlt1).dflt.int = y5 at c5 hc
      generalize (l[m]'hlt1).dflt.fl = y6 at c6 hc
      generalize (l[m]'hlt1).dflt.text = y7 at c7 hc
      generalize (l[m]'hlt1).dflt.items.length = y8 at c8 hc
      have HC := Lib.hid hc
      clear hc hlt1
      have hmc : m ≤ c := by omega
      by_cases he : E = 0
      · subst he
        have HRE : Hid (colsCheck [] l = colsCheck ((l.take (m + 1)).map Col.name) (l.drop (m + 1))) := Lib.hid (by rw [HRES.out, if_pos rfl])
        clear HRES
        go_wp2_with fail
        go_region_law (go_simp; go_at_call 59; refine HC.out.mono ?_; rintro e w2 ⟨rfl, hk2⟩)
        all_goals
          have HK2 := Lib.hid (HKP.out.trans ((Keeps.drew wr).trans hk2))
          clear hk2
          go_wp2
          exact ⟨⟨m + 1, by omega, by go_num, HRE.out, HK2.out⟩, by simp [intOf]; omega⟩
      · have qe : (E != 0) = true := by simpa using he
        have HRE : Hid (R = E) := Lib.hid (by
          have h2 : colsCheck [] l = E := by rw [HRES.out, if_neg he]
          rw [HR.out, h2, if_neg he])
        clear HRES he
        go_wp2_with fail
        go_region_law (go_simp; go_at_call 59; refine HC.out.mono ?_; rintro e w2 ⟨rfl, hk2⟩)
        all_goals
          have HK2 := Lib.hid (HKW.out.trans ((Keeps.drew wr).trans hk2))
          clear hk2
          go_wp2
          go_ret
          exact ⟨by rw [HRE.out]; rfl, HK2.out⟩
    · have hcc : colsCheck [] l = 0 := by
        rw [hres, List.drop_eq_nil_of_le (by rw [HL.out]; omega), colsCheck]
      have hR := HR.out
      rw [if_pos hcc] at hR
      have hpc := refBytesOf_calls A c l wr ((HS.out.later hkw.below).mono fun b _ hb => by have := hkw.size; omega) (fun j hj => by
        have hmem := List.getElem_mem hj
        obtain ⟨ns, hns⟩ := colsCheck_ok l [] hcc _ hmem
        exact col_fine hns (HW.out _ hmem)) (putS_bound (by rw [HL.out]; exact hl16) hcc HW.out)
      rw [HL.out] at hpc
      generalize hP : putS l = P at hpc hR
      have HPC := Lib.hid hpc
      have HRR := Lib.hid hR
      have HKW := Lib.hid hkw
      clear hpc hR hkw hkp hbs hres hcc hP
      go_wp2_with fail
      refine HPC.out.mono ?_
      rintro e w2 ⟨v2, rfl, hown, hk2⟩
      obtain ⟨A', c', rfl, hlc, _⟩ := hown.form
      clear hown
      generalize P.length = L at HRR hlc ⊢
      by_cases hL : 1024 < L
      · have HE : Hid (R = 2) := Lib.hid (by rw [HRR.out, if_pos hL])
        clear HRR
        go_wp2
        go_ret
        exact ⟨by rw [HE.out]; rfl, HKW.out.trans hk2⟩
      · have HE : Hid (R = 0) := Lib.hid (by rw [HRR.out, if_neg hL])
        have hL2 : L ≤ 1024 := by omega
        clear HRR hL
        go_wp2
        go_ret
        exact ⟨by rw [HE.out]; rfl, HKW.out.trans hk2⟩

set_option maxRecDepth 20000 in
set_option maxHeartbeats 1000000 in
theorem refSchEncode_calls (A : Option Addr) (c : Nat) (l : List Col) (w : World) (hcap : l.length ≤ c) (hs : SchS w (fun b => b < w.heap.size) A l) (hw : ∀ x ∈ l, x.dflt.wf) (htb : Tabs w) :
    Calls Tryz.prog 43 #[.agg #[.slice A l.length c]] w (EncPost w l) := by
  obtain ⟨W0, hW0⟩ : ∃ W0, W0 = w.alloc (.cells #[.slice A l.length c] 24) := ⟨_, rfl⟩
  have hk0 : Keeps w W0 := by rw [hW0]; exact (Keeps.refl w).alloc _
  have hb0 : W0.heap[w.heap.size]? = some (.cells #[.slice A l.length c] 24) := by rw [hW0]; exact obj_new w _
  have hs0 := (hs.later hk0.below).mono (S' := fun b => b < W0.heap.size) fun b hb _ => hb
  have hcc := refCheck_calls A c l W0 hcap hs0 hw (htb.below hk0.below)
  have HK0 := Lib.hid hk0
  have HB0 := Lib.hid hb0
  have HS0 := Lib.hid hs0
  have HW := Lib.hid hw
  clear hk0 hb0 hs0 hs htb hcap
  by_cases hz : schCheck l = 0
  · have hok := hz
    unfold schCheck at hok
    have h16 : l.length ≤ 16 := by
      split at hok
      · omega
      split at hok
      · omega
      · omega
    have hcl : colsCheck [] l = 0 := by
      split at hok
      · omega
      split at hok
      · omega
      split at hok
      · assumption
      · contradiction
    have hputs : ∀ j (h : j < l.length), (l[j]'h).fine := fun j hj => by
      have hmem := List.getElem_mem hj
      obtain ⟨ns, hns⟩ := colsCheck_ok l [] hcl _ hmem
      exact col_fine hns (hw _ hmem)
    have hbd := putS_bound h16 hcl hw
    rw [hz] at hcc
    have HE : Hid (∀ e w', (∃ A c, e = .returned (.tuple #[.slice A (putS l).length c, .int .i64 0]) ∧ OwnB 5 w' w.heap.size (.slice A (putS l).length c) (putS l) ∧ Keeps w w') → EncPost w l e w') := Lib.hid fun e w' h => by unfold EncPost; rw [if_pos hz]; exact h
    have HCC := Lib.hid hcc
    have HPT := Lib.hid hputs
    have HBD := Lib.hid hbd
    clear hcc hputs hbd hok hcl hz hw
    generalize hLn : l.length = N at h16 hW0 HB0 HCC ⊢
    have HL := Lib.hid hLn
    clear hLn
    go_enter Tryz.func43, Tryz.ntmps43
    go_wp2_with fail
    rw [← hW0]
    clear hW0
    refine HCC.out.mono ?_
    rintro e w1 ⟨rfl, hk1⟩
    have hb1 := (hk1.below.block _ (obj_lt HB0.out)).trans HB0.out
    obtain ⟨d0, _⟩ := cells1 hb1
    have u1 := obj_lt hb1
    have hpc := refBytesOf_calls A c l w1 ((HS0.out.later hk1.below).mono fun b hb _ => hb) HPT.out HBD.out
    rw [HL.out] at hpc
    have HPC := Lib.hid hpc
    have HK1 := Lib.hid (HK0.out.trans hk1)
    clear hpc hk1 hb1 HCC
    go_wp2_with fail
    refine HPC.out.mono ?_
    rintro e w2 ⟨v2, rfl, hown, hk2⟩
    obtain ⟨A', c', rfl, hlc, _⟩ := hown.form
    have hown2 := hown.weaken HK1.out.size
    have HO := Lib.hid hown2
    have HK2 := Lib.hid (HK1.out.trans hk2)
    clear hown hk2 hown2
    go_wp2
    go_ret2
    exact HE.out _ _ ⟨A', c', rfl, HO.out, HK2.out⟩
  · have HE : Hid (∀ e w', (e = .returned (.tuple #[.slice none 0 0, .int .i64 (schCheck l)]) ∧ Keeps w w') → EncPost w l e w') := Lib.hid fun e w' h => by unfold EncPost; rw [if_neg hz]; exact h
    have qe : (schCheck l != 0) = true := by simpa using hz
    generalize schCheck l = E at hcc qe HE
    have HCC := Lib.hid hcc
    clear hcc hz hw HB0 HS0 HW
    generalize l.length = N at hW0 HCC ⊢
    go_enter Tryz.func43, Tryz.ntmps43
    go_wp2_with fail
    rw [← hW0]
    clear hW0
    refine HCC.out.mono ?_
    rintro e w1 ⟨rfl, hk1⟩
    go_wp2
    go_ret2
    exact HE.out _ _ ⟨rfl, HK0.out.trans hk1⟩
end Go.Proofs.YtbhhhkilljnkfaaGreatDoor
/- The walks of the document's Update and Sum of the check. Condition: the slice reads as a list of bytes. -/
namespace Go.Proofs.YtbhhhkilljnkfaaGreatDoor
open Go.RowKit
set_option linter.unusedVariables false
set_option linter.unusedSimpArgs false

/-- one bit's step, in the walk's words -/
theorem bit_parts (X : Nat) (hX : X < 4294967296) : ∃ d Y : Nat, bits BinOp.and IntKind.u32 (X : Int) 1 = ((X % 2 : Nat) : Int) ∧ (X : Int) % 2 = ((X % 2 : Nat) : Int) ∧ (X : Int) / 2 = (d : Int) ∧ bits BinOp.xor IntKind.u32 (d : Int) 3988292384 = (Y : Int) ∧
    Crc.bit X < 4294967296 ∧ (X % 2 = 1 → Crc.bit X = Y) ∧ (X % 2 ≠ 1 → Crc.bit X = d) := by
  refine ⟨X / 2, X / 2 ^^^ 3988292384, ?_, by omega, by omega, ?_, Crc.bit_lt hX, fun h => by simp [Crc.bit, h], fun h => by simp [Crc.bit, h]⟩
  · have := u32_and_nat X 1 hX (by omega)
    rw [show X % 2 = X &&& 1 from (Nat.and_two_pow_sub_one_eq_mod X 1).symm]
    exact this
  · exact xor_u32 _ 3988292384 (by omega) (by omega)

theorem nats_slow_step (s1 : Nat) (l : List UInt8) (k : Nat) (hlt : k < l.length) : Crc.slow s1 ((nats l).take (k + 1)) = Crc.bits 8 (Crc.slow s1 ((nats l).take k) ^^^ (l[k]'hlt).toNat) := by
  rw [nats_snoc l k hlt]
  simp only [Crc.slow, List.foldl_append, List.foldl_cons, List.foldl_nil]
  rfl

set_option maxHeartbeats 1000000 in
theorem refUpdate_calls (s : Nat) (hs : s < 4294967296) (A : Option Addr) (c : Nat) (l : List UInt8) (w : World) (hl : l.length ≤ 9223372036854775807) (hr : Reads w A l) :
    Calls Tryz.prog 53 #[.int .u32 (s : Int), .slice A l.length c] w fun e w' => e = .returned (.int .u32 ((Crc.upd s (nats l) : Nat) : Int)) ∧ w = w' := by
  have hfull := not_u32 s hs
  have hs' : 4294967295 ^^^ s < 4294967296 := Crc.xor_lt (by omega) hs
  have hu : Crc.upd s (nats l) = 4294967295 ^^^ Crc.slow (4294967295 ^^^ s) (nats l) := by
    unfold Crc.upd; rw [Crc.fast_slow]
  generalize 4294967295 ^^^ s = s1 at hfull hs' hu
  have HU := Lib.hid hu
  have HR := Lib.hid hr
  clear hr hu
  go_enter Tryz.func53, Tryz.ntmps53
  go_wp2
  go_loop [5, 6] (fun r i => ∃ k : Nat, k ≤ l.length ∧ i = .int .i64 k ∧ r = .int .u32 ((Crc.slow s1 ((nats l).take k) : Nat) : Int)) (fun _ i => l.length - (intOf i).toNat)
  case atStart => exact ⟨0, Nat.zero_le _, rfl, rfl⟩
  case round =>
    obtain ⟨k, hk, rfl, rfl⟩ := hrel
    clear hfull
    by_cases hlt : k < l.length
    · obtain ⟨ad, rfl, hc⟩ := HR.out.out k hlt
      have hn := nats_slow_step s1 l k hlt
      have hb : Crc.slow s1 ((nats l).take k) < 4294967296 := Crc.slow_lt _ hs' (nats_take_lt l k)
      have hcb : (l[k]'hlt).toNat < 4294967296 := by have := (l[k]'hlt).toNat_lt; omega
      generalize Crc.slow s1 ((nats l).take k) = R at hn hb ⊢
      generalize (l[k]'hlt).toNat = cb at hn hc hcb
      have e0 := mod_u32 cb hcb
      have e1 := xor_u32 R cb hb hcb
      have hX : R ^^^ cb < 4294967296 := Crc.xor_lt hb hcb
      generalize R ^^^ cb = X at e1 hX hn
      have HN := Lib.hid hn
      clear hn
      go_wp2
      go_loop [5, 7] (fun r i => ∃ j : Nat, j ≤ 8 ∧ i = .int .i64 j ∧ r = .int .u32 ((Crc.bits j X : Nat) : Int)) (fun _ i => 8 - (intOf i).toNat)
      case atStart => exact ⟨0, Nat.zero_le _, rfl, rfl⟩
      case round =>
        obtain ⟨j, hj, rfl, rfl⟩ := hrel
        clear e0 e1 hc
        by_cases hjl : j < 8
        · have hB : Crc.bits j X < 4294967296 := Crc.bits_lt j hX
          have hs : Crc.bits (j + 1) X = Crc.bit (Crc.bits j X) := by rw [Crc.bits_add]; rfl
          generalize Crc.bits j X = B at hB hs ⊢
          obtain ⟨d, Y, g1, g2, g3, g4, hbl, hy1, hy2⟩ := bit_parts B hB
          clear g1
          by_cases hm : B % 2 = 1
          · have hy := hy1 hm
            rw [hm] at g2
            rw [hy] at hs
            have HS := Lib.hid hs
            clear hm hy hy1 hy2 hs hbl
            go_wp2
            go_round
            case rel => exact ⟨j + 1, by omega, by go_num, by rw [HS.out]⟩
            case measure => simp [intOf]; omega
          · have hm0 : B % 2 = 0 := by omega
            have hy := hy2 hm
            rw [hm0] at g2
            rw [hy] at hs
            have HS := Lib.hid hs
            clear hm hm0 hy hy1 hy2 hs hbl
            go_wp2
            go_round
            case rel => exact ⟨j + 1, by omega, by go_num, by rw [HS.out]⟩
            case measure => simp [intOf]; omega
        · obtain rfl : j = 8 := by omega
          go_wp2
          go_round
          case rel => exact ⟨k + 1, by omega, by go_num, by rw [HN.out]⟩
          case measure => simp [intOf]; omega
    · go_wp2
      go_ret
      refine ⟨?_, rfl⟩
      have : k = l.length := by omega
      subst this
      rw [List.take_of_length_le (by rw [nats_length]; omega), not_u32 _ (Crc.slow_lt _ hs' (nats_lt l)), HU.out]
      exact ret_int rfl

set_option maxHeartbeats 400000 in
theorem refSum_calls (A : Option Addr) (c : Nat) (l : List UInt8) (w : World) (hl : l.length ≤ 9223372036854775807) (hr : Reads w A l) :
    Calls Tryz.prog 27 #[.slice A l.length c] w fun e w' => e = .returned (.int .u32 ((Crc.sum (nats l) : Nat) : Int)) ∧ w = w' := by
  have HR := Lib.hid hr
  clear hr
  go_enter Tryz.func27, Tryz.ntmps27
  go_wp2_with (go_at_call 53; refine (refUpdate_calls 0 (by omega) A c l _ hl HR.out).mono ?_; rintro e w' ⟨rfl, rfl⟩)
  go_ret
  exact ⟨rfl, rfl⟩

end Go.Proofs.YtbhhhkilljnkfaaGreatDoor
/- The walks of the reference's within, index and Wrong of a frame. Condition: the frame reads, its capacity is Go's, the tables of unicode/utf8 are as laid. -/
namespace Go.Proofs.YtbhhhkilljnkfaaGreatDoor
open Go.RowKit Go.BigFrame
set_option linter.unusedVariables false
set_option linter.unusedSimpArgs false
attribute [local go_sem] run_storeF

set_option maxHeartbeats 400000 in
theorem refWithin_calls (n m : Int) (w : World) : Calls Tryz.prog 39 #[.int .i64 n, .int .i64 m] w fun e w' => e = .returned (.bool (!(outOf m n))) ∧ w = w' := by
  by_cases h0 : 0 ≤ n
  · have q0 : decide (0 ≤ n) = true := by rw [decide_eq_true_eq]; exact h0
    by_cases h1 : n < m
    · have q1 : decide (n < m) = true := by rw [decide_eq_true_eq]; exact h1
      have hE : outOf m n = false := by unfold outOf; rw [decide_eq_false (by omega), decide_eq_false (by omega)]; rfl
      rw [hE]
      clear hE
      go_enter Tryz.func39, Tryz.ntmps39
      go_wp2
      go_ret
      exact ⟨rfl, rfl⟩
    · have q1 : decide (n < m) = false := by rw [decide_eq_false_iff_not]; exact h1
      have hE : outOf m n = true := by unfold outOf; rw [decide_eq_false (by omega), decide_eq_true (by omega)]; rfl
      rw [hE]
      clear hE
      go_enter Tryz.func39, Tryz.ntmps39
      go_wp2
      go_ret
      exact ⟨rfl, rfl⟩
  · have q0 : decide (0 ≤ n) = false := by rw [decide_eq_false_iff_not]; exact h0
    have hE : outOf m n = true := by unfold outOf; rw [decide_eq_true (by omega)]; rfl
    rw [hE]
    clear hE
    go_enter Tryz.func39, Tryz.ntmps39
    go_wp2
    go_ret
    exact ⟨rfl, rfl⟩

set_option maxRecDepth 20000 in
set_option maxHeartbeats 2000000 in
theorem refIndex_calls (A B E : Option Addr) (k : Nat) (f : Fr) (w : World) (hf : FrS w (fun b => b < w.heap.size) A B E f) :
    Calls Tryz.prog 41 #[.agg (ixCells E k f)] w fun e w' => e = .returned (.int .i64 (idxWrong f)) ∧ Keeps w w' := by
  obtain ⟨W, hW⟩ : ∃ W, W = w.alloc (.cells (ixCells E k f) 28) := ⟨_, rfl⟩
  have hk0 : Keeps w W := by rw [hW]; exact (Keeps.refl w).alloc _
  have b0 : W.heap[w.heap.size]? = some (.cells (ixCells E k f) 28) := by rw [hW]; exact obj_new w _
  have hne := hf.lenE
  obtain ⟨R, hR⟩ : ∃ R, R = idxWrong f := ⟨_, rfl⟩
  rw [← hR]
  have HF := Lib.hid hf
  have HB := Lib.hid b0
  have HK := Lib.hid hk0
  unfold ixCells at *
  unfold idxWrong at hR
  have HR := Lib.hid hR
  clear hf b0 hk0 hR
  generalize hL : f.ents.length = N at *
  have HL := Lib.hid hL
  clear hL
  have HW := Lib.hid hW
  clear hW
  cases ha : outOf 1099511627776 f.spot <;> cases hb : outOf 1099511627776 f.frames <;> cases hc : outOf 1099511627776 f.irows
  case false.false.false =>
    have HR1 : Hid (R = if 64 < N then 3 else if f.ents.any entBad then 7 else 0) := Lib.hid (by rw [HR.out]; simp [ha, hb, hc])
    clear HR
    by_cases h64 : 64 < N
    · have HE : Hid (R = 3) := Lib.hid (by rw [HR1.out, if_pos h64])
      clear HR1
      go_enter Tryz.func41, Tryz.ntmps41
      go_wp2_with (go_at_call 39; refine (refWithin_calls _ _ _).mono ?_; rintro e w1 ⟨rfl, rfl⟩)
      go_ret
      exact ⟨by rw [HE.out]; rfl, (Keeps.refl w).alloc _⟩
    · have HR2 : Hid (R = if (f.ents.drop 0).any entBad = true then 7 else 0) := Lib.hid (by rw [HR1.out, if_neg h64]; rfl)
      clear HR1
      go_enter Tryz.func41, Tryz.ntmps41
      go_wp2_with (go_at_call 39; refine (refWithin_calls _ _ _).mono ?_; rintro e w1 ⟨rfl, rfl⟩)
      go_loopw [6] (fun i wr => ∃ j : Nat, j ≤ N ∧ i = .int .i64 (j : Int) ∧ R = (if (f.ents.drop j).any entBad = true then 7 else 0) ∧ wr = W) (fun i _ => N - (intOf i).toNat)
      case atStart => exact ⟨0, by omega, rfl, HR2.out, by rw [HW.out]⟩
      case round =>
        obtain ⟨j, hj, rfl, hres, rfl⟩ := hrel
        have c3 : wr.cell? ⟨w.heap.size, 3, none⟩ = some (.slice E N k) := by rw [obj_cell HB.out]; rfl
        have u0 := obj_lt HB.out
        by_cases hlt : j < N
        · have hlt1 : j < f.ents.length := by rw [HL.out]; exact hlt
          rw [any_drop _ _ j hlt1] at hres
          obtain ⟨ad, rfl, _, e0, e1, e2⟩ := (HF.out.later HK.out.below).ent_at j hlt1
          have hbad : entBad (f.ents[j]'hlt1) = (outOf 1099511627776 (f.ents[j]'hlt1).spot || (outOf 1099511627776 (f.ents[j]'hlt1).row || (outOf 1099511627776 (f.ents[j]'hlt1).sch || false))) := rfl
          rw [hbad] at hres
          generalize (f.ents[j]'hlt1).spot = p at *
          generalize (f.ents[j]'hlt1).row = q at *
          generalize (f.ents[j]'hlt1).sch = r at *
          have HRES := Lib.hid hres
          clear hres hbad hlt1
          cases pa : outOf 1099511627776 p <;> cases pb : outOf 1099511627776 q <;> cases pc : outOf 1099511627776 r
          case false.false.false =>
            have HRR : Hid (R = if (f.ents.drop (j + 1)).any entBad = true then 7 else 0) := Lib.hid (by rw [HRES.out, pa, pb, pc]; simp)
            go_wp2_with (go_at_call 39; refine (refWithin_calls _ _ _).mono ?_; rintro e w1 ⟨rfl, rfl⟩)
            first
              | exact ⟨⟨j + 1, by omega, by go_num, HRR.out, trivial⟩, by simp [intOf]; omega⟩
              | (go_roundw
                 case rel => exact ⟨j + 1, by omega, by go_num, HRR.out, rfl⟩
                 case measure => simp [intOf]; omega)
          all_goals
            have HRR : Hid (R = 7) := Lib.hid (by rw [HRES.out, pa, pb, pc]; simp)
            go_wp2_with (go_at_call 39; refine (refWithin_calls _ _ _).mono ?_; rintro e w1 ⟨rfl, rfl⟩)
            go_ret
            exact ⟨by rw [HRR.out]; rfl, HK.out⟩
        · have e : f.ents.drop j = [] := List.drop_eq_nil_of_le (by rw [HL.out]; omega)
          rw [e] at hres
          simp only [List.any_nil, Bool.false_eq_true, if_false] at hres
          have HRES := Lib.hid hres
          clear hres e
          go_wp2
          go_ret
          exact ⟨by rw [HRES.out]; rfl, HK.out⟩
  all_goals
    have HE : Hid (R = 7) := Lib.hid (by rw [HR.out]; simp [ha, hb, hc])
    clear HR
    go_enter Tryz.func41, Tryz.ntmps41
    go_wp2_with (go_at_call 39; refine (refWithin_calls _ _ _).mono ?_; rintro e w1 ⟨rfl, rfl⟩)
    go_ret
    exact ⟨by rw [HE.out]; rfl, (Keeps.refl w).alloc _⟩

set_option maxRecDepth 20000 in
set_option maxHeartbeats 2000000 in
theorem refWrong_calls (A B E : Option Addr) (c d k : Nat) (f : Fr) (w : World) (hcap : f.cols.length ≤ c) (hf : FrS w (fun b => b < w.heap.size) A B E f) (hw : f.wf) (htb : Tabs w) :
    Calls Tryz.prog 19 #[.agg (frCells A c B d E k f)] w fun e w' => e = .returned (.int .i64 (frWrong f)) ∧ Keeps w w' := by
  obtain ⟨W, hW⟩ : ∃ W, W = w.alloc (.cells (frCells A c B d E k f) 30) := ⟨_, rfl⟩
  have hk0 : Keeps w W := by rw [hW]; exact (Keeps.refl w).alloc _
  obtain ⟨R, hR⟩ : ∃ R, R = frWrong f := ⟨_, rfl⟩
  rw [← hR]
  have hchk := refCheck_calls A c f.cols W hcap ((hf.later hk0.below).sch.mono fun b hb _ => hb) hw.dflt (htb.below hk0.below)
  have hix := refIndex_calls A B E k f W (by
    have h := hf.later hk0.below
    exact ⟨h.sch.mono fun b hb _ => hb, h.blk, fun a e hn => Nat.lt_of_lt_of_le (h.blkS a e hn) hk0.size, h.ent, fun a e hn => Nat.lt_of_lt_of_le (h.entS a e hn) hk0.size, h.lenB, h.lenE⟩)
  have HCHK := Lib.hid hchk
  have HIX := Lib.hid hix
  have HK := Lib.hid hk0
  unfold frCells at *
  unfold ixCells at *
  unfold frWrong schWrong datWrong at hR
  have HR := Lib.hid hR
  clear hchk hix hk0 hR hf hw htb hcap
  generalize f.cols.length = NC at *
  generalize f.block.length = NB at *
  generalize f.ents.length = NE at *
  generalize f.kind = kd at *
  by_cases h1 : kd = 1
  · subst h1
    cases ha : outOf 2147483648 f.number with
    | true =>
      have HE : Hid (R = 7) := Lib.hid (by rw [HR.out, if_pos rfl, if_pos ha])
      clear HR HCHK HIX HK hW
      go_enter Tryz.func19, Tryz.ntmps19
      go_wp2_with (go_at_call 39; refine (refWithin_calls _ _ _).mono ?_; rintro e w1 ⟨rfl, rfl⟩)
      go_ret
      exact ⟨by rw [HE.out]; rfl, (Keeps.refl w).alloc _⟩
    | false =>
      have HE : Hid (R = schCheck f.cols) := Lib.hid (by rw [HR.out, if_pos rfl, ha]; rfl)
      clear HR HIX
      go_enter Tryz.func19, Tryz.ntmps19
      go_wp2_with fail
      refine (refWithin_calls _ _ _).mono ?_
      rintro e w1 ⟨rfl, rfl⟩
      go_wp2_with fail
      rw [← hW]
      clear hW
      refine HCHK.out.mono ?_
      rintro e w1 ⟨rfl, hk1⟩
      have HK1 := Lib.hid (HK.out.trans hk1)
      clear hk1
      go_wp2
      go_ret
      exact ⟨by rw [HE.out]; rfl, HK1.out⟩
  by_cases h2 : kd = 2
  · subst h2
    have HR2 : Hid (R = if outOf 2147483648 f.number || (outOf 1099511627776 f.seq || outOf 1099511627776 f.first) || decide (f.rows < 1) || decide (64 < f.rows) then 7 else 0) := Lib.hid (by rw [HR.out, if_neg (by omega), if_pos rfl])
    clear HR HCHK HIX HK hW h1
    obtain ⟨b1, q1⟩ : ∃ b, decide (f.rows < 1) = b := ⟨_, rfl⟩
    obtain ⟨b2, q2⟩ : ∃ b, decide (64 < f.rows) = b := ⟨_, rfl⟩
    cases ha : outOf 2147483648 f.number <;> cases hb : outOf 1099511627776 f.seq <;> cases hc : outOf 1099511627776 f.first <;> cases b1 <;> cases b2
    case false.false.false.false.false =>
      have HE : Hid (R = 0) := Lib.hid (by rw [HR2.out, ha, hb, hc, q1, q2]; rfl)
      clear HR2
      go_enter Tryz.func19, Tryz.ntmps19
      go_wp2_with (go_at_call 39; refine (refWithin_calls _ _ _).mono ?_; rintro e w1 ⟨rfl, rfl⟩)
      go_ret
      exact ⟨by rw [HE.out]; rfl, (Keeps.refl w).alloc _⟩
    all_goals
      have HE : Hid (R = 7) := Lib.hid (by rw [HR2.out, ha, hb, hc, q1, q2]; rfl)
      clear HR2
      go_enter Tryz.func19, Tryz.ntmps19
      go_wp2_with (go_at_call 39; refine (refWithin_calls _ _ _).mono ?_; rintro e w1 ⟨rfl, rfl⟩)
      go_ret
      exact ⟨by rw [HE.out]; rfl, (Keeps.refl w).alloc _⟩
  by_cases h3 : kd = 3
  · subst h3
    have HE : Hid (R = idxWrong f) := Lib.hid (by rw [HR.out, if_neg (by omega), if_neg (by omega), if_pos rfl])
    clear HR HCHK h1 h2
    go_enter Tryz.func19, Tryz.ntmps19
    go_wp2_with fail
    rw [← hW]
    clear hW
    refine HIX.out.mono ?_
    rintro e w1 ⟨rfl, hk1⟩
    have HK1 := Lib.hid (HK.out.trans hk1)
    clear hk1
    go_wp2
    go_ret
    exact ⟨by rw [HE.out]; rfl, HK1.out⟩
  · have HE : Hid (R = 60) := Lib.hid (by rw [HR.out, if_neg h1, if_neg h2, if_neg h3])
    have q1 : (kd == 1) = false := by simpa using h1
    have q2 : (kd == 2) = false := by simpa using h2
    have q3 : (kd == 3) = false := by simpa using h3
    clear HR HCHK HIX HK hW h1 h2 h3
    go_enter Tryz.func19, Tryz.ntmps19
    go_wp2
    go_ret
    exact ⟨by rw [HE.out]; rfl, (Keeps.refl w).alloc _⟩
end Go.Proofs.YtbhhhkilljnkfaaGreatDoor
/- The walks of the reference's numbers and Checked. Condition: the slices read, the numbers are of 63 bits. -/
namespace Go.Proofs.YtbhhhkilljnkfaaGreatDoor
open Go.RowKit Go.BigFrame
set_option linter.unusedVariables false
set_option linter.unusedSimpArgs false
attribute [local go_sem] run_storeF

set_option maxRecDepth 20000 in
set_option maxHeartbeats 1000000 in
theorem refNumbers_calls (A : Option Addr) (c : Nat) (l : List Nat) (w : World) (hl : l.length ≤ 100000) (hn : ∀ n ∈ l, n < 9223372036854775808) (hr : RowAt w A (n64s l)) :
    Calls Tryz.prog 42 #[.slice A l.length c] w (NewB w (lebs l)) := by
  have HRW := Lib.hid hr
  have HNM := Lib.hid hn
  clear hr hn
  generalize hL : l.length = N at hl ⊢
  have HL := Lib.hid hL
  clear hL
  go_enter Tryz.func42, Tryz.ntmps42
  go_wp2_with fail
  go_loopw [3, 4] (fun b i wr => ∃ (m : Nat) (A' : Option Addr) (c' M : Nat), m ≤ N ∧ i = .int .i64 (m : Int) ∧ b = .slice A' M c' ∧ OwnB 5 wr w.heap.size (.slice A' M c') (lebs (l.take m)) ∧ Keeps w wr) (fun _ i _ => N - (intOf i).toNat)
  case atStart => exact ⟨0, none, 0, 0, Nat.zero_le _, rfl, rfl, OwnB.nil _ _ _, Keeps.refl _⟩
  case round =>
    obtain ⟨m, A', c', M, hm, rfl, rfl, hown, hk⟩ := hrel
    by_cases hlt : m < N
    · have hlt1 : m < l.length := by rw [HL.out]; exact hlt
      obtain ⟨ad, rfl, hc⟩ := row_n64 (HRW.out.below hk.below) m hlt1
      have hx := HNM.out _ (List.getElem_mem hlt1)
      have htk := lebs_take l m hlt1
      have hle : (lebs (l.take m)).length ≤ 10 * (l.take m).length := lebs_le _ fun n hn => HNM.out n (List.mem_of_mem_take hn)
      rw [List.length_take] at hle
      obtain ⟨x, hx2⟩ : ∃ x, x = l[m]'hlt1 := ⟨_, rfl⟩
      rw [← hx2] at hc hx htk
      have hl10 := leb_le x (by omega)
      have HP := Lib.hid (ref3Put_calls x (by omega) wr)
      have HTK := Lib.hid htk
      have HLE := Lib.hid hle
      have H10 := Lib.hid hl10
      have HO := Lib.hid hown
      have HK := Lib.hid hk
      clear htk hle hl10 hown hk hx2 hlt1
      go_wp2_with fail
      refine HP.out.mono ?_
      rintro e w1 ⟨v1, rfl, hown1, hk1⟩
      obtain ⟨A1, M1, c1, rfl, HM1, HR1⟩ := hown1.seen
      have HO1 := Lib.hid (HO.out.below hk1)
      have HK1 := Lib.hid (HK.out.trans hk1)
      clear hown1 hk1 HP
      go_wp2_with (at_builtin; refine wpList_append_bytes (w0 := w) w.heap.size rfl _ _ 25 5 rfl Tryz.underlying25 info_u8b (.slice A' M c') (lebs (l.take m)) (leb x) rfl HO1.out A1 c1 (by rw [HM1.out]; rfl) HR1.out ?c2 HK1.out.size HK1.out ?_)
      case c2 => have := HLE.out; have := H10.out; omega
      intro v2 w2 hown2 hb2 _ _
      obtain ⟨A2, M2, c2, rfl, hown2'⟩ := hown2.named HTK.out.symm
      have HO2 := Lib.hid hown2'
      have HB2 := Lib.hid hb2
      clear hown2 hown2' hb2
      go_wp2
      exact ⟨⟨m + 1, A2, c2, M2, by omega, by go_num, rfl, HO2.out, HB2.out⟩, by simp [intOf]; omega⟩
    · have e : l.take m = l := List.take_of_length_le (by rw [HL.out]; omega)
      rw [e] at hown
      have HO := Lib.hid hown
      have HK := Lib.hid hk
      clear hown hk e
      go_wp2
      go_ret
      exact ⟨_, rfl, HO.out, HK.out⟩

theorem le4_take (S k : Nat) (h : k < 4) : (le4 S).take (k + 1) = (le4 S).take k ++ [UInt8.ofNat (S / 256 ^ k % 256)] := by
  obtain rfl | rfl | rfl | rfl : k = 0 ∨ k = 1 ∨ k = 2 ∨ k = 3 := by omega
  all_goals simp [le4]

set_option maxRecDepth 20000 in
set_option maxHeartbeats 1000000 in
theorem refChecked_calls (A : Option Addr) (c : Nat) (l : List UInt8) (w : World) (hl : l.length ≤ 140737488350000) (hr : Reads w A l) :
    Calls Tryz.prog 44 #[.slice A l.length c] w (NewB w (l ++ le4 (Crc.sum (nats l)))) := by
  have hs := refSum_calls A c l w (by omega) hr
  have hlt : Crc.sum (nats l) < 4294967296 := Crc.upd_lt _ (by omega) (nats_lt l)
  generalize Crc.sum (nats l) = S at hs hlt ⊢
  have HS := Lib.hid hs
  have HR := Lib.hid hr
  clear hs hr
  generalize hL : l.length = N at hl HS ⊢
  have HL := Lib.hid hL
  clear hL
  go_enter Tryz.func44, Tryz.ntmps44
  go_wp2_with fail
  refine HS.out.mono ?_
  rintro e w1 ⟨rfl, hk⟩
  have hkk : Keeps w w1 := by first | exact hk | (subst hk; exact Keeps.refl _) | exact hk.below _ | (obtain ⟨n, rfl⟩ := hk; exact (Quiet.below ⟨n, rfl⟩ _))
  have HK := Lib.hid hkk
  have HR1 := Lib.hid (HR.out.below hkk.below)
  clear hkk hk HS
  go_wp2_with (at_builtin; refine wpList_append_bytes (w0 := w) w.heap.size rfl _ _ 25 5 rfl Tryz.underlying25 info_u8b (.slice none 0 0) [] l rfl (OwnB.nil _ _ _) A c (by rw [HL.out]; rfl) HR1.out ?c2 HK.out.size HK.out ?_)
  case c2 => have := HL.out; simp; omega
  intro v2 w2 hown2 hb2 _ _
  obtain ⟨A2, M2, c2, rfl, hown2'⟩ := hown2.named (l' := l ++ (le4 S).take 0) (by simp)
  have HO2 := Lib.hid hown2'
  have HB2 := Lib.hid hb2
  clear hown2 hown2' hb2
  go_wp2_with fail
  go_loopw [3, 4, 5] (fun x b i wr => ∃ (k : Nat) (A' : Option Addr) (c' M : Nat), k ≤ 4 ∧ i = .int .i64 (k : Int) ∧ x = .int .u32 ((S / 256 ^ k : Nat) : Int) ∧ b = .slice A' M c' ∧ OwnB 5 wr w.heap.size (.slice A' M c') (l ++ (le4 S).take k) ∧ Keeps w wr) (fun _ _ i _ => 4 - (intOf i).toNat)
  case atStart => exact ⟨0, A2, c2, M2, by omega, rfl, by simp, rfl, HO2.out, HB2.out⟩
  case round =>
    obtain ⟨k, A', c', M, hk, rfl, rfl, rfl, hown, hkp⟩ := hrel
    have HO := Lib.hid hown
    have HKP := Lib.hid hkp
    clear hown hkp
    by_cases hlt4 : k < 4
    · have HT := Lib.hid (le4_take S k hlt4)
      have hdiv : S / 256 ^ (k + 1) = S / 256 ^ k / 256 := by rw [Nat.pow_succ, Nat.div_div_eq_div_mul]
      have hM : S / 256 ^ k < 4294967296 := Nat.lt_of_le_of_lt (Nat.div_le_self _ _) hlt
      generalize S / 256 ^ k = X at HT hdiv hM ⊢
      have HD := Lib.hid hdiv
      clear hdiv
      obtain ⟨W1, hW1⟩ : ∃ W1, W1 = wr.alloc (.cells #[.int .u8 ((X : Int) % 256)] 5) := ⟨_, rfl⟩
      have hk1 : Keeps wr W1 := by rw [hW1]; exact (Keeps.refl wr).alloc _
      have hr1 : Reads W1 (some ⟨wr.heap.size, 0, none⟩) [UInt8.ofNat (X % 256)] := by
        rw [hW1]; exact Reads.new _ _ _ _ _ (by show [Value.int .u8 ((X : Int) % 256)] = [Value.int .u8 (((UInt8.ofNat (X % 256)).toNat : Nat) : Int)]; rw [byte_of])
      have hw8 : IntKind.u8.wrap ((X : Int) % 256) = (X : Int) % 256 := by simp [IntKind.wrap, IntKind.bits, IntKind.signed]
      have HK1 := Lib.hid (HKP.out.trans hk1)
      have HO1 := Lib.hid (HO.out.below hk1)
      have HRR := Lib.hid hr1
      have HW1 := Lib.hid hW1
      clear hk1 hr1 hW1
      go_wp2_with (at_builtin; rw [← HW1.out]; refine wpList_append_bytes (w0 := w) w.heap.size rfl _ _ 25 5 rfl Tryz.underlying25 info_u8b (.slice A' M c') (l ++ (le4 S).take k) [UInt8.ofNat (X % 256)] rfl HO1.out (some ⟨wr.heap.size, 0, none⟩) 1 rfl HRR.out ?d2 HK1.out.size HK1.out ?_)
      case d2 => have := HL.out; rw [List.length_append, List.length_take]; simp; omega
      intro v3 w3 hown3 hb3 _ _
      obtain ⟨A3, M3, c3, rfl, hown3'⟩ := hown3.named (l' := l ++ (le4 S).take (k + 1)) (by rw [HT.out]; try simp only [List.append_assoc])
      have HO3 := Lib.hid hown3'
      have HB3 := Lib.hid hb3
      clear hown3 hown3' hb3
      go_wp2
      exact ⟨⟨k + 1, A3, c3, M3, by omega, by go_num, by rw [HD.out]; go_num, rfl, HO3.out, HB3.out⟩, by simp [intOf]; omega⟩
    · obtain rfl : k = 4 := by omega
      have e8 : (le4 S).take 4 = le4 S := rfl
      rw [e8] at HO
      clear e8
      go_wp2
      go_ret
      exact ⟨_, rfl, HO.out, HKP.out⟩
end Go.Proofs.YtbhhhkilljnkfaaGreatDoor
