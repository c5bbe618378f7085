/-
  The walk of the reference's Body of a frame. Condition: the frame reads, its capacities are Go's, nothing is wrong with it, the tables of unicode/utf8 are as laid. The walk of the document's Stuff. Condition: the bytes read as a list. The walk of the reference's Encode of a frame. Condition: the frame reads, its capacities are Go's, the tables of unicode/utf8 are as laid. The walk of FrameEncodes. Condition: the frame reads, its capacities are Go's; the tables are as laid.
-/
import Derived.Test.YtbhhhkilljnkfaaGreatDoorG14
import Derived.Deep.RegionHeld3
import Derived.Test.YtbhhhkilljnkfaaGreatDoorG6
import Derived.Test.YtbhhhkilljnkfaaGreatDoorG1
import Derived.Test.YtbhhhkilljnkfaaGreatDoorG10
import Derived.Test.YtbhhhkilljnkfaaGreatDoorG11
/- The walk of the reference's Body of a frame. Condition: the frame reads, its capacities are Go's, nothing is wrong with it, the tables of unicode/utf8 are as laid. -/
namespace Go.Proofs.YtbhhhkilljnkfaaGreatDoor
open Go.RowKit Go.BigFrame
set_option linter.unusedVariables false
set_option linter.unusedSimpArgs false
attribute [local go_sem] run_storeF

theorem Keeps.read {w w' : World} (h : Keeps w w') {p : Addr} {v : Value} (hc : w.cell? p = some v) : w'.cell? p = some v := by
  rw [h.below.cell (World.block_lt_of_cell? w _ hc)]; exact hc

set_option maxRecDepth 20000 in
set_option maxHeartbeats 2000000 in
theorem refBody_sch (A B E : Option Addr) (c d k : Nat) (f : Fr) (w : World) (h1 : f.kind = 1) (h0 : schWrong f = 0) (hcap : f.cols.length ≤ c) (hf : FrS w (fun b => b < w.heap.size) A B E f) (hw : f.wf) (htb : Tabs w) :
    Calls Tryz.prog 20 #[.agg (frCells A c B d E k f)] w (NewB w (frBody f ++ le4 (Crc.sum (nats (frBody f))))) := by
  obtain ⟨n, hn, hn1, hsc⟩ := schWrong_no h0
  have hb : frBody f = [1] ++ (lebs [n] ++ putS f.cols) := by
    have : f.number.toNat = n := by rw [hn]; rfl
    simp [frBody, frPut, schPut, h1, this]
  rw [hb]
  have hpl := schCheck_len hsc
  have hl10 := lebs_le [n] (fun m hm => by simp at hm; omega)
  simp only [List.length_cons, List.length_nil] at hl10
  obtain ⟨W, hW⟩ : ∃ W, W = ((w.alloc (.cells (frCells A c B d E k f) 30)).alloc (.cells #[.int .u8 1] 5)).alloc (.cells #[.int .i64 (n : Int)] 2) := ⟨_, rfl⟩
  have hk0 : Keeps w W := by rw [hW]; exact (((Keeps.refl w).alloc _).alloc _).alloc _
  have b0 : W.heap[w.heap.size]? = some (.cells (frCells A c B d E k f) 30) := by rw [hW]; exact obj_old (obj_old (obj_new w _) _) _
  have b2 : W.heap[w.heap.size + 2]? = some (.cells #[.int .i64 (n : Int)] 2) := by rw [hW]; exact obj_new_at _ _ _ (by simp)
  have hown : OwnB 5 W w.heap.size (.slice (some ⟨w.heap.size + 1, 0, none⟩) 1 1) [1] := by
    rw [hW]
    exact (OwnB.new1 _ 1 _ rfl _ _ (by simp) (by omega)).below ((Keeps.refl _).alloc _).below
  have hnum := refNumbers_calls (some ⟨w.heap.size + 2, 0, none⟩) 1 [n] W (by simp) (fun m hm => by simp at hm; omega) (n64_one b2)
  have henc := fun w3 (hk : Keeps w w3) => refSchEncode_calls A c f.cols w3 hcap ((hf.later hk.below).sch.mono fun b hb _ => hb) hw.dflt (htb.below hk.below)
  have henc2 : ∀ w3, Keeps w w3 → Calls Tryz.prog 43 #[.agg #[.slice A f.cols.length c]] w3 fun e w' => ∃ A' M c', e = .returned (.tuple #[.slice A' M c', .int .i64 0]) ∧ Hid ((putS f.cols).length = M) ∧ OwnB 5 w' w3.heap.size (.slice A' M c') (putS f.cols) ∧ Keeps w3 w' := fun w3 hk => (henc w3 hk).mono fun e w' h => by
    unfold EncPost at h
    rw [if_pos hsc] at h
    obtain ⟨A', c', e1, h2, h3⟩ := h
    exact ⟨A', _, c', e1, Lib.hid rfl, h2, h3⟩
  have HENC := Lib.hid henc2
  have HNUM := Lib.hid hnum
  have HB := Lib.hid b0
  have HK := Lib.hid hk0
  have HO := Lib.hid hown
  have HPL := Lib.hid hpl
  have H10 := Lib.hid hl10
  unfold frCells at *
  rw [h1, hn] at hW HB ⊢
  clear henc henc2 hnum b0 b2 hk0 hown hpl hl10 hf hw htb hcap h0 hb hn h1 hsc
  generalize putS f.cols = P at *
  generalize f.cols.length = NC at *
  generalize f.block.length = NB at *
  generalize f.ents.length = NE at *
  go_enter Tryz.func20, Tryz.ntmps20
  go_wp2_with fail
  rw [← hW]
  clear hW
  refine HNUM.out.mono ?_
  rintro e w2 ⟨v2, rfl, hown2, hk2⟩
  obtain ⟨A2, M2, c2, rfl, HM2, HR2⟩ := hown2.seen
  have HO2 := Lib.hid (HO.out.below hk2)
  have HK2 := Lib.hid (HK.out.trans hk2)
  have HB2 := Lib.hid ((hk2.below.block _ (obj_lt HB.out)).trans HB.out)
  clear hown2 hk2 HNUM HO HB
  go_wp2_with (at_builtin; refine wpList_append_bytes (w0 := w) w.heap.size rfl _ _ 25 5 rfl Tryz.underlying25 info_u8b (.slice (some ⟨w.heap.size + 1, 0, none⟩) 1 1) [1] (lebs [n]) rfl HO2.out A2 c2 (by rw [HM2.out]; rfl) HR2.out ?c2 HK2.out.size HK2.out ?_)
  case c2 => have := H10.out; simp; omega
  intro v3 w3 hown3 hb3 hg3 _
  have hbb : w3.heap[w.heap.size]? = _ := (hg3.block _ (obj_lt HB2.out) (by simp [Value.ownBlock])).trans HB2.out
  have d2 : w3.cell? ⟨w.heap.size, 2, none⟩ = some (.slice A NC c) := by rw [obj_cell hbb]; rfl
  have u3 := obj_lt hbb
  obtain ⟨A3, M3, c3, rfl, hown3'⟩ := hown3.named (l' := [1] ++ lebs [n]) rfl
  have HO3 := Lib.hid hown3'
  have HK3 : Hid (Keeps w w3) := Lib.hid hb3
  clear hown3 hown3' hb3 hg3 hbb HB2 HK2 HO2
  go_wp2_with fail
  refine (HENC.out w3 HK3.out).mono ?_
  rintro e w4 ⟨A4, M4, c4, rfl, HM4, hown4, hk4⟩
  have HR4 := Lib.hid hown4.form.choose_spec
  obtain ⟨A5, M5, c5, e5, HM5, HR5⟩ := hown4.seen
  injection e5 with g1 g2 g3
  subst g1 g2 g3
  have HO4 := Lib.hid (HO3.out.below hk4)
  have HK4 := Lib.hid (HK3.out.trans hk4)
  clear hown4 hk4 HENC HR4 d2 u3
  go_wp2_with (at_builtin; refine wpList_append_bytes (w0 := w) w.heap.size rfl _ _ 25 5 rfl Tryz.underlying25 info_u8b (.slice A3 M3 c3) ([1] ++ lebs [n]) P rfl HO4.out A4 c4 (by rw [HM4.out]; rfl) HR5.out ?d2 HK4.out.size HK4.out ?_)
  case d2 => have := H10.out; have := HPL.out; rw [List.length_append]; simp; omega
  intro v6 w6 hown6 hb6 hg6 _
  obtain ⟨A6, M6, c6, rfl, hown6'⟩ := hown6.named (l' := [1] ++ (lebs [n] ++ P)) (by simp)
  obtain ⟨A7, M7, c7, e7, HM7, HR7⟩ := hown6'.seen
  injection e7 with g1 g2 g3
  subst g1 g2 g3
  have hchk := refChecked_calls A6 c6 ([1] ++ (lebs [n] ++ P)) w6 (by have := H10.out; have := HPL.out; rw [List.length_append, List.length_append]; simp; omega) HR7.out
  rw [HM7.out] at hchk
  have HCHK := Lib.hid hchk
  have HK6 : Hid (Keeps w w6) := Lib.hid hb6
  clear hown6 hown6' hb6 hg6 hchk
  go_wp2_with fail
  refine HCHK.out.mono ?_
  rintro e w7 ⟨v7, rfl, hown7, hk7⟩
  have HO7 := Lib.hid (hown7.weaken HK6.out.size)
  have HK7 := Lib.hid (HK6.out.trans hk7)
  clear hown7 hk7 HCHK
  go_wp2
  go_ret
  exact ⟨v7, rfl, HO7.out, HK7.out⟩

set_option maxRecDepth 20000 in
set_option maxHeartbeats 2000000 in
theorem refBody_dat (A B E : Option Addr) (c d k : Nat) (f : Fr) (w : World) (h1 : f.kind = 2) (h0 : datWrong f = 0) (hf : FrS w (fun b => b < w.heap.size) A B E f) :
    Calls Tryz.prog 20 #[.agg (frCells A c B d E k f)] w (NewB w (frBody f ++ le4 (Crc.sum (nats (frBody f))))) := by
  obtain ⟨n, s, t, r, hn, hs, ht, hr, hn1, hs1, ht1, _, hr1⟩ := datWrong_no h0
  have hb : frBody f = [2] ++ (lebs [n, s, t, r] ++ f.block) := by
    have e1 : f.number.toNat = n := by rw [hn]; rfl
    have e2 : f.seq.toNat = s := by rw [hs]; rfl
    have e3 : f.first.toNat = t := by rw [ht]; rfl
    have e4 : f.rows.toNat = r := by rw [hr]; rfl
    simp [frBody, frPut, datPut, h1, e1, e2, e3, e4]
  rw [hb]
  have hlb := hf.lenB
  have hl10 := lebs_le [n, s, t, r] (fun m hm => by simp at hm; omega)
  simp only [List.length_cons, List.length_nil] at hl10
  obtain ⟨W, hW⟩ : ∃ W, W = ((w.alloc (.cells (frCells A c B d E k f) 30)).alloc (.cells #[.int .u8 2] 5)).alloc (.cells #[.int .i64 (n : Int), .int .i64 (s : Int), .int .i64 (t : Int), .int .i64 (r : Int)] 2) := ⟨_, rfl⟩
  have hk0 : Keeps w W := by rw [hW]; exact (((Keeps.refl w).alloc _).alloc _).alloc _
  have b0 : W.heap[w.heap.size]? = some (.cells (frCells A c B d E k f) 30) := by rw [hW]; exact obj_old (obj_old (obj_new w _) _) _
  have b2 : W.heap[w.heap.size + 2]? = some (.cells #[.int .i64 (n : Int), .int .i64 (s : Int), .int .i64 (t : Int), .int .i64 (r : Int)] 2) := by rw [hW]; exact obj_new_at _ _ _ (by simp)
  have hown : OwnB 5 W w.heap.size (.slice (some ⟨w.heap.size + 1, 0, none⟩) 1 1) [2] := by
    rw [hW]
    exact (OwnB.new1 _ 2 _ rfl _ _ (by simp) (by omega)).below ((Keeps.refl _).alloc _).below
  have hnum := refNumbers_calls (some ⟨w.heap.size + 2, 0, none⟩) 4 [n, s, t, r] W (by simp) (fun m hm => by simp at hm; omega) (n64_four b2)
  have HNUM := Lib.hid hnum
  have HB := Lib.hid b0
  have HK := Lib.hid hk0
  have HO := Lib.hid hown
  have HRB := Lib.hid hf.blk
  have H10 := Lib.hid hl10
  have HLB := Lib.hid hlb
  unfold frCells at *
  rw [h1, hn, hs, ht, hr] at hW HB ⊢
  clear hnum b0 b2 hk0 hown hl10 hf h0 hb hn hs ht hr h1 hlb
  generalize f.cols.length = NC at *
  generalize hNB : f.block.length = NB at *
  have HNB := Lib.hid hNB
  clear hNB
  generalize f.ents.length = NE at *
  go_enter Tryz.func20, Tryz.ntmps20
  go_wp2_with fail
  rw [← hW]
  clear hW
  refine HNUM.out.mono ?_
  rintro e w2 ⟨v2, rfl, hown2, hk2⟩
  obtain ⟨A2, M2, c2, rfl, HM2, HR2⟩ := hown2.seen
  have HO2 := Lib.hid (HO.out.below hk2)
  have HK2 := Lib.hid (HK.out.trans hk2)
  have HB2 := Lib.hid ((hk2.below.block _ (obj_lt HB.out)).trans HB.out)
  clear hown2 hk2 HNUM HO HB
  go_wp2_with (at_builtin; refine wpList_append_bytes (w0 := w) w.heap.size rfl _ _ 25 5 rfl Tryz.underlying25 info_u8b (.slice (some ⟨w.heap.size + 1, 0, none⟩) 1 1) [2] (lebs [n, s, t, r]) rfl HO2.out A2 c2 (by rw [HM2.out]; rfl) HR2.out ?c2 HK2.out.size HK2.out ?_)
  case c2 => have := H10.out; simp; omega
  intro v3 w3 hown3 hb3 hg3 _
  have hbb : w3.heap[w.heap.size]? = _ := (hg3.block _ (obj_lt HB2.out) (by simp [Value.ownBlock])).trans HB2.out
  have d2 : w3.cell? ⟨w.heap.size, 6, none⟩ = some (.slice B NB d) := by rw [obj_cell hbb]; rfl
  have u3 := obj_lt hbb
  obtain ⟨A3, M3, c3, rfl, hown3'⟩ := hown3.named (l' := [2] ++ lebs [n, s, t, r]) rfl
  have HO3 := Lib.hid hown3'
  have HK3 : Hid (Keeps w w3) := Lib.hid hb3
  have HRB3 := Lib.hid (HRB.out.below hb3)
  clear hown3 hown3' hb3 hg3 hbb HB2 HK2 HO2
  go_wp2_with (at_builtin; refine wpList_append_bytes (w0 := w) w.heap.size rfl _ _ 25 5 rfl Tryz.underlying25 info_u8b (.slice A3 M3 c3) ([2] ++ lebs [n, s, t, r]) f.block rfl HO3.out B d (by rw [HNB.out]; rfl) HRB3.out ?d2 HK3.out.size HK3.out ?_)
  case d2 => have := H10.out; have := HLB.out; have := HNB.out; rw [List.length_append]; simp; omega
  intro v6 w6 hown6 hb6 hg6 _
  obtain ⟨A6, M6, c6, rfl, hown6'⟩ := hown6.named (l' := [2] ++ (lebs [n, s, t, r] ++ f.block)) (by simp)
  obtain ⟨A7, M7, c7, e7, HM7, HR7⟩ := hown6'.seen
  injection e7 with g1 g2 g3
  subst g1 g2 g3
  have hchk := refChecked_calls A6 c6 ([2] ++ (lebs [n, s, t, r] ++ f.block)) w6 (by have := H10.out; have := HLB.out; have := HNB.out; rw [List.length_append, List.length_append]; simp; omega) HR7.out
  rw [HM7.out] at hchk
  have HCHK := Lib.hid hchk
  have HK6 : Hid (Keeps w w6) := Lib.hid hb6
  clear hown6 hown6' hb6 hg6 hchk
  go_wp2_with fail
  refine HCHK.out.mono ?_
  rintro e w7 ⟨v7, rfl, hown7, hk7⟩
  have HO7 := Lib.hid (hown7.weaken HK6.out.size)
  have HK7 := Lib.hid (HK6.out.trans hk7)
  clear hown7 hk7 HCHK
  go_wp2
  go_ret
  exact ⟨v7, rfl, HO7.out, HK7.out⟩

set_option maxRecDepth 20000 in
set_option maxHeartbeats 4000000 in
theorem refBody_idx (A B E : Option Addr) (c d k : Nat) (f : Fr) (w : World) (h1 : f.kind = 3) (h0 : idxWrong f = 0) (hf : FrS w (fun b => b < w.heap.size) A B E f) :
    Calls Tryz.prog 20 #[.agg (frCells A c B d E k f)] w (NewB w (frBody f ++ le4 (Crc.sum (nats (frBody f))))) := by
  obtain ⟨n, s, t, hn, hs, ht, hn1, hs1, ht1, hN64, hEB⟩ := idxWrong_no h0
  have hb : frBody f = [3] ++ (lebs [n, s, t, f.ents.length] ++ f.ents.flatMap entPut) := by
    have e1 : f.spot.toNat = n := by rw [hn]; rfl
    have e2 : f.frames.toNat = s := by rw [hs]; rfl
    have e3 : f.irows.toNat = t := by rw [ht]; rfl
    simp [frBody, frPut, idxPut, h1, e1, e2, e3]
  rw [hb]
  have hl10 := lebs_le [n, s, t, f.ents.length] (fun m hm => by simp at hm; omega)
  simp only [List.length_cons, List.length_nil] at hl10
  obtain ⟨W, hW⟩ : ∃ W, W = (((w.alloc (.cells (frCells A c B d E k f) 30)).alloc (.cells #[.int .u8 3] 5)).alloc (.cells (ixCells E k f) 28)).alloc (.cells #[.int .i64 (n : Int), .int .i64 (s : Int), .int .i64 (t : Int), .int .i64 (f.ents.length : Int)] 2) := ⟨_, rfl⟩
  have hk0 : Keeps w W := by rw [hW]; exact ((((Keeps.refl w).alloc _).alloc _).alloc _).alloc _
  have b0 : W.heap[w.heap.size + 2]? = some (.cells (ixCells E k f) 28) := by rw [hW]; exact obj_old (obj_new_at _ _ _ (by simp)) _
  have b2 : W.heap[w.heap.size + 3]? = some (.cells #[.int .i64 (n : Int), .int .i64 (s : Int), .int .i64 (t : Int), .int .i64 (f.ents.length : Int)] 2) := by rw [hW]; exact obj_new_at _ _ _ (by simp)
  have hown : OwnB 5 W w.heap.size (.slice (some ⟨w.heap.size + 1, 0, none⟩) 1 1) [3] := by
    rw [hW]
    exact (OwnB.new1 _ 3 _ rfl _ _ (by simp) (by omega)).below (((Keeps.refl _).alloc _).alloc _).below
  have hnum := refNumbers_calls (some ⟨w.heap.size + 3, 0, none⟩) 4 [n, s, t, f.ents.length] W (by simp) (fun m hm => by simp at hm; omega) (n64_four b2)
  have HNUM := Lib.hid hnum
  have HB := Lib.hid b0
  have HK := Lib.hid hk0
  have HO := Lib.hid hown
  have HF := Lib.hid hf
  have HEB := Lib.hid hEB
  have H10 := Lib.hid hl10
  have HLE := Lib.hid (entsPut_le f.ents hEB)
  unfold frCells ixCells at *
  rw [h1, hn, hs, ht] at hW
  rw [h1, hn, hs, ht]
  rw [hn, hs, ht] at HB
  clear hnum b0 b2 hk0 hown hl10 hf h0 hb hn hs ht h1 hEB
  generalize f.cols.length = NC at *
  generalize f.block.length = NB at *
  generalize hNE : f.ents.length = NE at *
  have HNE := Lib.hid hNE
  clear hNE
  go_enter Tryz.func20, Tryz.ntmps20
  go_wp2_with fail
  rw [← hW]
  clear hW
  refine HNUM.out.mono ?_
  rintro e w2 ⟨v2, rfl, hown2, hk2⟩
  obtain ⟨A2, M2, c2, rfl, HM2, HR2⟩ := hown2.seen
  have HO2 := Lib.hid (HO.out.below hk2)
  have HK2 := Lib.hid (HK.out.trans hk2)
  have HB2 := Lib.hid ((hk2.below.block _ (obj_lt HB.out)).trans HB.out)
  clear hown2 hk2 HNUM HO HB
  go_wp2_with (at_builtin; refine wpList_append_bytes (w0 := w) w.heap.size rfl _ _ 25 5 rfl Tryz.underlying25 info_u8b (.slice (some ⟨w.heap.size + 1, 0, none⟩) 1 1) [3] (lebs [n, s, t, NE]) rfl HO2.out A2 c2 (by rw [HM2.out]; rfl) HR2.out ?c2 HK2.out.size HK2.out ?_)
  case c2 => have := H10.out; simp; omega
  intro v3 w3 hown3 hb3 hg3 _
  have hbb : w3.heap[w.heap.size + 2]? = _ := (hg3.block _ (obj_lt HB2.out) (by simp [Value.ownBlock])).trans HB2.out
  obtain ⟨A3, M3, c3, rfl, hown3'⟩ := hown3.named (l' := [3] ++ lebs [n, s, t, NE]) rfl
  have HO3 := Lib.hid hown3'
  have HK3 : Hid (Keeps w w3) := Lib.hid hb3
  have HB3 := Lib.hid hbb
  clear hown3 hown3' hb3 hg3 hbb HB2 HK2 HO2
  go_wp2_with fail
  go_loopw [4, 6] (fun b i wr => ∃ (j : Nat) (A' : Option Addr) (c' M : Nat), j ≤ NE ∧ i = .int .i64 (j : Int) ∧ b = .slice A' M c' ∧ OwnB 5 wr w3.heap.size (.slice A' M c') ((f.ents.take j).flatMap entPut) ∧ Keeps w3 wr) (fun _ i _ => NE - (intOf i).toNat)
  case atStart => exact ⟨0, none, 0, 0, Nat.zero_le _, rfl, rfl, OwnB.nil _ _ _, Keeps.refl _⟩
  case round =>
    obtain ⟨j, A', c', M, hj, rfl, rfl, hown, hkp⟩ := hrel
    have hbr := (hkp.below.block _ (obj_lt HB3.out)).trans HB3.out
    have d3 : wr.cell? ⟨w.heap.size + 2, 3, none⟩ = some (.slice E NE k) := by rw [obj_cell hbr]; rfl
    have u3 := obj_lt hbr
    by_cases hlt : j < NE
    · have hlt1 : j < f.ents.length := by rw [HNE.out]; exact hlt
      obtain ⟨ad, rfl, _, e0, e1, e2⟩ := (HF.out.later (HK3.out.trans hkp).below).ent_at j hlt1
      obtain ⟨x, y, z, hxyz, hx, hy, hz⟩ := entBad_no (HEB.out _ (List.getElem_mem hlt1))
      rw [hxyz] at e0 e1 e2
      simp only at e0 e1 e2
      have htk := entsPut_take f.ents j hlt1
      rw [hxyz] at htk
      have hep : entPut ⟨(x : Int), (y : Int), (z : Int)⟩ = lebs [x, y, z] := rfl
      rw [hep] at htk
      have hte := entsPut_le (f.ents.take j) (fun e he => HEB.out e (List.mem_of_mem_take he))
      rw [List.length_take] at hte
      have hl3 := lebs_le [x, y, z] (fun m hm => by simp at hm; omega)
      simp only [List.length_cons, List.length_nil] at hl3
      have v0 := World.block_lt_of_cell? wr _ e0
      obtain ⟨W2, hW2⟩ : ∃ W2, W2 = (wr.alloc (.cells #[.int .i64 (x : Int), .int .i64 (y : Int), .int .i64 (z : Int)] 2)).drew := ⟨_, rfl⟩
      have hk2 : Keeps wr W2 := by rw [hW2]; exact ((Keeps.refl wr).alloc _).trans (Keeps.drew _)
      have hb2 : W2.heap[wr.heap.size]? = some (.cells #[.int .i64 (x : Int), .int .i64 (y : Int), .int .i64 (z : Int)] 2) := by rw [hW2]; exact obj_new wr _
      have hnum := refNumbers_calls (some ⟨wr.heap.size, 0, none⟩) 3 [x, y, z] W2 (by simp) (fun m hm => by simp at hm; omega) (n64_three hb2)
      have HNUM := Lib.hid hnum
      have HTK := Lib.hid htk
      have HTE := Lib.hid hte
      have HL3 := Lib.hid hl3
      have HKW := Lib.hid (hkp.trans hk2)
      have HOW := Lib.hid (hown.below hk2)
      have HW2 := Lib.hid hW2
      have HKR := Lib.hid hk2
      have D3 := Lib.hid d3
      have E0 := Lib.hid e0
      have E1 := Lib.hid e1
      have E2 := Lib.hid e2
      clear hnum htk hte hl3 hkp hk2 hown hep hxyz hb2 hbr hW2 hx hy hz hlt1
      go_wp2_with fail
      go_region_held3 (fun w' => w'.cell? ⟨w.heap.size + 2, 3, none⟩ = some (.slice (some ad) NE k) ∧ w'.cell? (ad.add (j * 3)) = some (.int .i64 (x : Int)) ∧ w'.cell? ⟨(ad.add (j * 3)).block, (ad.add (j * 3)).off + 1, none⟩ = some (.int .i64 (y : Int)) ∧ w'.cell? ⟨(ad.add (j * 3)).block, (ad.add (j * 3)).off + 2, none⟩ = some (.int .i64 (z : Int))) (go_keep) (
        (go_simp; go_at_call 42; rw [← HW2.out]; refine HNUM.out.mono ?_; rintro e w4 ⟨v4, rfl, hown4, hk4⟩
         have HK24 := Lib.hid hk4
         have hk14 : Keeps wr w4 := HKR.out.trans hk4
         have d3' : w4.cell? ⟨w.heap.size + 2, 3, none⟩ = some (.slice (some ad) NE k) := hk14.read D3.out
         have e0' : w4.cell? (ad.add (j * 3)) = some (.int .i64 (x : Int)) := hk14.read E0.out
         have e1' : w4.cell? ⟨(ad.add (j * 3)).block, (ad.add (j * 3)).off + 1, none⟩ = some (.int .i64 (y : Int)) := hk14.read E1.out
         have e2' : w4.cell? ⟨(ad.add (j * 3)).block, (ad.add (j * 3)).off + 2, none⟩ = some (.int .i64 (z : Int)) := hk14.read E2.out
         clear hk14))
      all_goals
        obtain ⟨A4, M4, c4, rfl, HM4, HR4⟩ := hown4.seen
        have HK4 := Lib.hid (HKW.out.trans hk4)
        have HO4 := Lib.hid (HOW.out.below hk4)
        clear hown4 hk4
        go_wp2_with (at_builtin; refine wpList_append_bytes (w0 := w3) w3.heap.size rfl _ _ 25 5 rfl Tryz.underlying25 info_u8b (.slice A' M c') ((f.ents.take j).flatMap entPut) (lebs [x, y, z]) rfl HO4.out A4 c4 (by rw [HM4.out]; rfl) HR4.out (by have := HTE.out; have := HL3.out; omega) HK4.out.size HK4.out ?_)
        intro v5 w5 hown5 hb5 _ _
        obtain ⟨A5, M5, c5, rfl, hown5'⟩ := hown5.named HTK.out.symm
        have HO5 := Lib.hid hown5'
        have HK5 : Hid (Keeps w3 w5) := Lib.hid hb5
        clear hown5 hown5' hb5
        go_wp2
        exact ⟨⟨j + 1, A5, c5, M5, by omega, by go_num, rfl, HO5.out, HK5.out⟩, by simp [intOf]; omega⟩
    · have e : f.ents.take j = f.ents := List.take_of_length_le (by rw [HNE.out]; omega)
      rw [e] at hown
      have hl := HLE.out
      obtain ⟨A5, M5, c5, e5, HM5, HR5⟩ := hown.seen
      injection e5 with g1 g2 g3
      subst g1 g2 g3
      have HLP := Lib.hid (show (f.ents.flatMap entPut).length ≤ 30 * 64 by have := HNE.out; omega)
      generalize f.ents.flatMap entPut = P at *
      have HO4 := Lib.hid (HO3.out.below hkp)
      have HK4 := Lib.hid (HK3.out.trans hkp)
      clear hown hkp e hbr hl
      go_wp2_with (at_builtin; refine wpList_append_bytes (w0 := w) w.heap.size rfl _ _ 25 5 rfl Tryz.underlying25 info_u8b (.slice A3 M3 c3) ([3] ++ lebs [n, s, t, NE]) P rfl HO4.out A' c' (by rw [HM5.out]; rfl) HR5.out ?d2 HK4.out.size HK4.out ?_)
      case d2 => have := H10.out; have := HLP.out; rw [List.length_append]; simp; omega
      intro v6 w6 hown6 hb6 hg6 _
      obtain ⟨A6, M6, c6, rfl, hown6'⟩ := hown6.named (l' := [3] ++ (lebs [n, s, t, NE] ++ P)) (by simp)
      obtain ⟨A7, M7, c7, e7, HM7, HR7⟩ := hown6'.seen
      injection e7 with g1 g2 g3
      subst g1 g2 g3
      have hchk := refChecked_calls A6 c6 ([3] ++ (lebs [n, s, t, NE] ++ P)) w6 (by have := H10.out; have := HLP.out; rw [List.length_append, List.length_append]; simp; omega) HR7.out
      rw [HM7.out] at hchk
      have HCHK := Lib.hid hchk
      have HK6 : Hid (Keeps w w6) := Lib.hid hb6
      clear hown6 hown6' hb6 hg6 hchk
      go_wp2_with fail
      refine HCHK.out.mono ?_
      rintro e w7 ⟨v7, rfl, hown7, hk7⟩
      have HO7 := Lib.hid (hown7.weaken HK6.out.size)
      have HK7 := Lib.hid (HK6.out.trans hk7)
      clear hown7 hk7 HCHK
      go_wp2
      go_ret
      exact ⟨v7, rfl, HO7.out, HK7.out⟩
end Go.Proofs.YtbhhhkilljnkfaaGreatDoor
/- The walk of the document's Stuff. Condition: the bytes read as a list. -/
namespace Go.Proofs.YtbhhhkilljnkfaaGreatDoor
open Go.RowKit Go.BigFrame
set_option linter.unusedVariables false
set_option linter.unusedSimpArgs false
set_option linter.unusedSectionVars false

structure RefRel (w : World) (b : List UInt8) (v a o : Value) (wr : World) : Prop where
  out : ∃ (at_ : Nat) (st : List UInt8) (op : Bool), at_ ≤ b.length ∧ a = .int .i64 (at_ : Int) ∧ o = .bool op ∧ OwnB 5 wr w.heap.size v st ∧ st.length ≤ 2 * at_ + 2 ∧
    (if op = true then st ++ stuffOf (b.drop at_) = stuffOf b ∧ st.length ≤ 2 * at_ else st = stuffOf b) ∧ Keeps w wr
def openV (n : Nat) (a o : Value) : Nat := match o with | .bool true => n - (intOf a).toNat + 1 | _ => 0

theorem grp_get (l : List UInt8) (k : Nat) (h : k < (grp l).length) : ∃ h2 : k < l.length, l[k]'h2 ≠ 0 ∧ l[k]'h2 = (grp l)[k]'h := by
  have hl := grp_le l
  have h2 : k < l.length := by omega
  have e : l[k]? = (grp l ++ l.drop (grp l).length)[k]? := congrArg (fun x : List UInt8 => x[k]?) (grp_append l)
  rw [List.getElem?_append_left h, List.getElem?_eq_getElem h2, List.getElem?_eq_getElem h] at e
  injection e with e
  refine ⟨h2, ?_, e⟩
  rw [e]
  intro e0
  exact grp_no l (by rw [← e0]; exact List.getElem_mem h)

theorem step_last {st l S : List UInt8} {cb : UInt8} (h : l.length ≤ (grp l).length) (hs : st ++ stuffOf l = S) (hc : cb = UInt8.ofNat ((grp l).length + 1)) : st ++ [cb] ++ grp l = S := by
  obtain ⟨e1, e2⟩ := stuff_last l h
  rw [← hs, e2, hc, e1]
  simp
theorem step_less {st l S : List UInt8} {cb : UInt8} (h : (grp l).length < l.length) (h2 : (grp l).length < 254) (hs : st ++ stuffOf l = S) (hc : cb = UInt8.ofNat ((grp l).length + 1)) : st ++ [cb] ++ grp l ++ stuffOf (l.drop ((grp l).length + 1)) = S := by
  rw [← hs, (stuff_less l h h2).2, hc]
  simp
theorem step_full {st l S : List UInt8} {cb : UInt8} (h : (grp l).length < l.length) (h2 : (grp l).length = 254) (hs : st ++ stuffOf l = S) (hc : cb = UInt8.ofNat ((grp l).length + 1)) : st ++ [cb] ++ grp l ++ stuffOf (l.drop (grp l).length) = S := by
  rw [← hs, (stuff_full l h h2).2.2, hc, h2]
  simp

section
variable {w wr : World} {b l st : List UInt8} {cb : UInt8} {v : Value} {at_ q : Nat} (hN : q = (grp l).length) (hLL : at_ + l.length = b.length) (hL : l = b.drop at_) (hS : st ++ stuffOf l = stuffOf b) (hC : cb = UInt8.ofNat (q + 1)) (hsl : st.length ≤ 2 * at_)
  (hF : OwnB 5 wr w.heap.size v (st ++ [cb] ++ grp l)) (hK : Keeps w wr)
include hN hLL hL hS hC hsl hF hK
theorem len_step : (st ++ [cb] ++ grp l).length = st.length + 1 + q := by rw [List.length_append, List.length_append, ← hN]; rfl
theorem close_last (h : ¬ at_ + q < b.length) : RefRel w b v (.int .i64 ((at_ : Int) + (q : Int))) (.bool (decide ((at_ : Int) + (q : Int) < (b.length : Int)))) wr ∧
    openV b.length (.int .i64 ((at_ : Int) + (q : Int))) (.bool (decide ((at_ : Int) + (q : Int) < (b.length : Int)))) < openV b.length (.int .i64 (at_ : Int)) (.bool true) := by
  have hd : decide ((at_ : Int) + (q : Int) < (b.length : Int)) = false := by rw [decide_eq_false_iff_not]; omega
  have hq := (grp_le l).2
  have hlen := len_step hN hLL hL hS hC hsl hF hK
  rw [hd]
  refine ⟨.mk ⟨at_ + q, _, false, by omega, by go_num, rfl, hF, by rw [hlen]; omega, ?_, hK⟩, by simp [openV]⟩
  simp only [Bool.false_eq_true, if_false]
  exact step_last (by omega) hS (by rw [hC, hN])
theorem close_full (h : at_ + q < b.length) (h2 : ¬ q < 254) : RefRel w b v (.int .i64 ((at_ : Int) + (q : Int))) (.bool true) wr ∧
    openV b.length (.int .i64 ((at_ : Int) + (q : Int))) (.bool true) < openV b.length (.int .i64 (at_ : Int)) (.bool true) := by
  have hq := grp_le l
  have hlen := len_step hN hLL hL hS hC hsl hF hK
  refine ⟨.mk ⟨at_ + q, _, true, by omega, by go_num, rfl, hF, by rw [hlen]; omega, ?_, hK⟩, by simp [openV, intOf]; omega⟩
  simp only [if_true]
  refine ⟨?_, by rw [hlen]; omega⟩
  have := step_full (st := st) (cb := cb) (by omega) (by omega) hS (by rw [hC, hN])
  rw [← hN] at this
  rw [← this, hL, List.drop_drop]
theorem close_less (h : at_ + q < b.length) (h2 : q < 254) : RefRel w b v (.int .i64 ((at_ : Int) + (q : Int) + 1)) (.bool true) wr ∧
    openV b.length (.int .i64 ((at_ : Int) + (q : Int) + 1)) (.bool true) < openV b.length (.int .i64 (at_ : Int)) (.bool true) := by
  have hq := grp_le l
  have hlen := len_step hN hLL hL hS hC hsl hF hK
  refine ⟨.mk ⟨at_ + q + 1, _, true, by omega, by go_num, rfl, hF, by rw [hlen]; omega, ?_, hK⟩, by simp [openV, intOf]; omega⟩
  simp only [if_true]
  refine ⟨?_, by rw [hlen]; omega⟩
  have := step_less (st := st) (cb := cb) (by omega) (by omega) hS (by rw [hC, hN])
  rw [← hN] at this
  rw [← this, hL, List.drop_drop]
  rfl
end

set_option maxRecDepth 100000 in
set_option maxHeartbeats 4000000 in
theorem refStuff_calls (A : Option Addr) (c : Nat) (b : List UInt8) (w : World) (hl : b.length ≤ 274877906944) (hr : Reads w A b) :
    Calls Tryz.prog 21 #[.slice A b.length c] w fun e w' => ∃ v, e = .returned v ∧ OwnB 5 w' w.heap.size v (stuffOf b) ∧ Keeps w w' := by
  have HR := Lib.hid hr
  clear hr
  go_enter Tryz.func21, Tryz.ntmps21
  go_wp2
  go_loopw [3, 4, 5] (fun v a o wr => RefRel w b v a o wr) (fun _ a o _ => openV b.length a o)
  case atStart => exact ⟨0, [], true, Nat.zero_le _, rfl, rfl, OwnB.nil _ _ _, by simp, by simp, Keeps.refl _⟩
  case round =>
    obtain ⟨at_, st, op, hat, rfl, rfl, hown, hsl, hop, hk⟩ := hrel
    have HO := Lib.hid hown
    have HK := Lib.hid hk
    clear hown hk
    cases op with
    | false =>
      have HOP := Lib.hid (show st = stuffOf b by simpa using hop)
      clear hop
      go_wp2
      go_ret
      refine ⟨_, rfl, ?_, HK.out⟩
      rw [← HOP.out]
      exact HO.out
    | true =>
      obtain ⟨hst, hsl2⟩ : st ++ stuffOf (b.drop at_) = stuffOf b ∧ st.length ≤ 2 * at_ := by simpa using hop
      obtain ⟨l, hl1⟩ : ∃ l, l = b.drop at_ := ⟨_, rfl⟩
      rw [← hl1] at hst
      have hll : at_ + l.length = b.length := by rw [hl1, List.length_drop]; omega
      have hgl := grp_le l
      have hgget : ∀ k (h : k < (grp l).length), ∃ hb : at_ + k < b.length, b[at_ + k]'hb ≠ 0 ∧ b[at_ + k]'hb = (grp l)[k]'h := by
        intro k h
        obtain ⟨h2, h3, h4⟩ := grp_get l k h
        have e : ∀ hb : at_ + k < b.length, b[at_ + k]'hb = l[k]'h2 := by intro hb; subst hl1; rw [List.getElem_drop]
        exact ⟨by omega, by rw [e]; exact h3, by rw [e]; exact h4⟩
      have hgstop : (grp l).length < 254 → (grp l).length < l.length → ∃ hb : at_ + (grp l).length < b.length, b[at_ + (grp l).length]'hb = 0 := by
        intro h1 h2
        have := grp_stop l h1 h2
        subst hl1
        rw [List.getElem_drop] at this
        exact ⟨by omega, this⟩
      have HST := Lib.hid hst
      have HG := Lib.hid hgget
      have HS := Lib.hid hgstop
      have HL1 := Lib.hid hl1
      have HLL := Lib.hid hll
      clear hst hgget hgstop hop hl1
      have hgb : at_ + (grp l).length ≤ b.length := by omega
      clear hll
      obtain ⟨n, hn⟩ : ∃ n, n = (grp l).length := ⟨_, rfl⟩
      rw [← hn] at hgl hgb
      have HN := Lib.hid hn
      clear hn
      go_wp2
      go_loopw [6] (fun k wz => ∃ q : Nat, q ≤ n ∧ k = .int .i64 (q : Int) ∧ wz = wr) (fun k _ => n - (intOf k).toNat)
      case atStart => exact ⟨0, Nat.zero_le _, rfl, rfl⟩
      case round =>
        obtain ⟨q, hq, rfl, rfl⟩ := hrel
        by_cases hqn : q < n
        · obtain ⟨hb, h1, h2⟩ := HG.out q (by rw [← HN.out]; exact hqn)
          obtain ⟨ad, rfl, hc⟩ := (HR.out.below HK.out.below).out (at_ + q) hb
          have hz : ((((b[at_ + q]'hb).toNat : Nat) : Int) != 0) = true := by
            rw [bne_iff_ne]; intro e; apply h1; exact UInt8.toNat_inj.1 (by simpa using e)
          clear h1 h2
          go_wp2
          exact ⟨⟨q + 1, by omega, by go_num, trivial⟩, by simp [intOf]; omega⟩
        · obtain rfl : q = n := by omega
          clear hqn hq
          obtain ⟨cb, hcb⟩ : ∃ cb, cb = UInt8.ofNat (q + 1) := ⟨_, rfl⟩
          have HU := Lib.hid (show cb.toNat = q + 1 by rw [hcb]; exact ofNat_toNat q hgl.1)
          have HCB := Lib.hid hcb
          have hcv : IntKind.u8.wrap ((q : Int) + 1) = (q : Int) + 1 := by simp [IntKind.wrap, IntKind.bits, IntKind.signed]; omega
          clear hcb
          have hcase : (¬ q < 254 ∧ ¬ at_ + q < b.length) ∨ (¬ q < 254 ∧ at_ + q < b.length) ∨ (q < 254 ∧ ¬ at_ + q < b.length) ∨ (q < 254 ∧ at_ + q < b.length ∧ ∃ ad, A = some ad ∧ wr.cell? (ad.add (at_ + q)) = some (.int .u8 0)) := by
            by_cases h1 : q < 254
            · by_cases h2 : at_ + q < b.length
              · refine .inr (.inr (.inr ⟨h1, h2, ?_⟩))
                obtain ⟨hb, hz⟩ := HS.out (by rw [← HN.out]; exact h1) (by rw [← HN.out]; have := HLL.out; omega)
                simp only [← HN.out] at hb hz
                obtain ⟨ad, e, hc⟩ := (HR.out.below HK.out.below).out (at_ + q) hb
                rw [hz] at hc
                exact ⟨ad, e, hc⟩
              · exact .inr (.inr (.inl ⟨h1, h2⟩))
            · by_cases h2 : at_ + q < b.length
              · exact .inr (.inl ⟨h1, h2⟩)
              · exact .inl ⟨h1, h2⟩
          rcases hcase with ⟨k1, k2⟩ | ⟨k1, k2⟩ | ⟨k1, k2⟩ | ⟨k1, k2, ad, rfl, k3⟩
          all_goals
            go_wp2_with (at_builtin; refine wpList_append_bytes (w0 := w) w.heap.size rfl _ _ 25 5 rfl Tryz.underlying25 info_u8 _ st [cb] rfl (HO.out.below ((Keeps.refl _).alloc _).below) _ 1 rfl (Reads.new_at _ [cb] 5 (0, 0) #[.int .u8 ((q : Int) + 1)] (by rw [show u8s [cb] = [.int .u8 ((cb.toNat : Nat) : Int)] from rfl, HU.out]; rfl) _ (by simp)) (by simp; omega) (by have := HK.out.size; simp; omega) (HK.out.alloc _) ?_)
            intro v1 w1 hown1 hb1 _ _
            have HO1 := Lib.hid hown1
            have HK1 := Lib.hid (show Keeps w w1 from hb1)
            clear hown1 hb1 hcv
            go_wp2
            go_loopw [3, 7] (fun v i wz => ∃ m : Nat, m ≤ q ∧ i = .int .i64 (m : Int) ∧ OwnB 5 wz w.heap.size v (st ++ [cb] ++ (grp l).take m) ∧ Keeps w wz) (fun _ i _ => q - (intOf i).toNat)
            case atStart => exact ⟨0, Nat.zero_le _, rfl, by simpa using HO1.out, HK1.out⟩
          all_goals
            obtain ⟨m, hm, rfl, ho2, hk2⟩ := hrel
            have HO2 := Lib.hid ho2
            have HK2 := Lib.hid hk2
            clear ho2 hk2
            by_cases hmq : m < q
            · obtain ⟨hb, h1, h2⟩ := HG.out m (by rw [← HN.out]; exact hmq)
              obtain ⟨ad2, e, hc⟩ := (HR.out.below HK2.out.below).out (at_ + m) hb
              cases e
              have hlen2 : ((grp l).take m).length ≤ 254 := by rw [List.length_take]; omega
              have hnx : (grp l).take (m + 1) = (grp l).take m ++ [b[at_ + m]'hb] := by rw [List.take_succ_eq_append_getElem (by rw [← HN.out]; exact hmq), h2]
              have HNX := Lib.hid hnx
              clear h1 h2 hnx
              go_wp2_with (at_builtin; refine wpList_append_bytes (w0 := w) w.heap.size rfl _ _ 25 5 rfl Tryz.underlying25 info_u8 _ (st ++ [cb] ++ (grp l).take m) [b[at_ + m]'hb] rfl (HO2.out.below ((Keeps.refl _).alloc _).below) _ 1 rfl (Reads.new_at _ [b[at_ + m]'hb] 5 (0, 0) #[.int .u8 (((b[at_ + m]'hb).toNat : Nat) : Int)] rfl _ (by simp)) (by rw [List.length_append, List.length_append]; simp only [List.length_cons, List.length_nil]; omega) (by have := HK2.out.size; simp; omega) (HK2.out.alloc _) ?_)
              intro v2 w2 hown2 hb2 _ _
              have HO3 := Lib.hid hown2
              have HK3 := Lib.hid (show Keeps w w2 from hb2)
              clear hown2 hb2
              go_wp2
              exact ⟨⟨m + 1, by omega, by go_num, by rw [HNX.out]; have := HO3.out; simpa [List.append_assoc] using this, HK3.out⟩, by simp [intOf]; omega⟩
            · have hfin := HO2.out
              rw [List.take_of_length_le (by rw [← HN.out]; omega)] at hfin
              have HF := Lib.hid hfin
              clear hfin HO2
              go_wp2
              all_goals first
                | exact close_last HN.out HLL.out HL1.out HST.out HCB.out hsl2 HF.out HK2.out k2
                | exact close_full HN.out HLL.out HL1.out HST.out HCB.out hsl2 HF.out HK2.out k2 k1
                | exact close_less HN.out HLL.out HL1.out HST.out HCB.out hsl2 HF.out HK2.out k2 k1
end Go.Proofs.YtbhhhkilljnkfaaGreatDoor
/- The walk of the reference's Encode of a frame. Condition: the frame reads, its capacities are Go's, the tables of unicode/utf8 are as laid. -/
namespace Go.Proofs.YtbhhhkilljnkfaaGreatDoor
open Go.RowKit Go.BigFrame
set_option linter.unusedVariables false
set_option linter.unusedSimpArgs false
attribute [local go_sem] run_storeF

theorem FrS.at_later {w w1 : World} {A B E : Option Addr} {f : Fr} (hf : FrS w (fun b => b < w.heap.size) A B E f) (hk : Keeps w w1) : FrS w1 (fun b => b < w1.heap.size) A B E f := by
  have h := hf.later hk.below
  exact ⟨h.sch.mono fun b hb _ => hb, h.blk, fun a e hn => Nat.lt_of_lt_of_le (h.blkS a e hn) hk.size, h.ent, fun a e hn => Nat.lt_of_lt_of_le (h.entS a e hn) hk.size, h.lenB, h.lenE⟩
theorem frBody_len {w : World} {A B E : Option Addr} {f : Fr} (hf : FrS w (fun b => b < w.heap.size) A B E f) (h0 : frWrong f = 0) : (frBody f).length ≤ 34359738368 := by
  unfold frWrong at h0
  have hlb := hf.lenB
  split at h0
  · rename_i h1
    obtain ⟨n, hn, hn1, hsc⟩ := schWrong_no h0
    have h2 := schCheck_len hsc
    have h3 := lebs_le [f.number.toNat] (fun m hm => by simp at hm; omega)
    simp only [List.length_cons, List.length_nil] at h3
    have e : frPut f = schPut f := by unfold frPut; rw [if_pos h1]
    simp only [frBody, e, schPut, List.length_append, List.length_cons, List.length_nil]
    omega
  split at h0
  · rename_i h1 h2
    obtain ⟨n, s, t, r, hn, hs, ht, hr, hn1, hs1, ht1, _, hr1⟩ := datWrong_no h0
    have h3 := lebs_le [f.number.toNat, f.seq.toNat, f.first.toNat, f.rows.toNat] (fun m hm => by simp at hm; omega)
    simp only [List.length_cons, List.length_nil] at h3
    have e : frPut f = datPut f := by unfold frPut; rw [if_neg h1, if_pos h2]
    simp only [frBody, e, datPut, List.length_append, List.length_cons, List.length_nil]
    omega
  split at h0
  · rename_i h1 h2 h4
    obtain ⟨n, s, t, hn, hs, ht, hn1, hs1, ht1, hN, hEB⟩ := idxWrong_no h0
    have h3 := lebs_le [f.spot.toNat, f.frames.toNat, f.irows.toNat, f.ents.length] (fun m hm => by simp at hm; omega)
    have h5 := entsPut_le f.ents hEB
    simp only [List.length_cons, List.length_nil] at h3
    have e : frPut f = idxPut f := by unfold frPut; rw [if_neg h1, if_neg h2]
    simp only [frBody, e, idxPut, List.length_append, List.length_cons, List.length_nil]
    omega
  · omega

theorem refBody_calls (A B E : Option Addr) (c d k : Nat) (f : Fr) (w : World) (h0 : frWrong f = 0) (hcap : f.cols.length ≤ c) (hf : FrS w (fun b => b < w.heap.size) A B E f) (hw : f.wf) (htb : Tabs w) :
    Calls Tryz.prog 20 #[.agg (frCells A c B d E k f)] w (NewB w (frBody f ++ le4 (Crc.sum (nats (frBody f))))) := by
  unfold frWrong at h0
  by_cases h1 : f.kind = 1
  · rw [if_pos h1] at h0
    exact refBody_sch A B E c d k f w h1 h0 hcap hf hw htb
  by_cases h2 : f.kind = 2
  · rw [if_neg h1, if_pos h2] at h0
    exact refBody_dat A B E c d k f w h2 h0 hf
  by_cases h3 : f.kind = 3
  · rw [if_neg h1, if_neg h2, if_pos h3] at h0
    exact refBody_idx A B E c d k f w h3 h0 hf
  · rw [if_neg h1, if_neg h2, if_neg h3] at h0
    omega

set_option maxRecDepth 20000 in
set_option maxHeartbeats 2000000 in
theorem refEncode_calls (A B E : Option Addr) (c d k : Nat) (f : Fr) (w : World) (hcap : f.cols.length ≤ c) (hf : FrS w (fun b => b < w.heap.size) A B E f) (hw : f.wf) (htb : Tabs w) :
    Calls Tryz.prog 6 #[.agg (frCells A c B d E k f)] w (FPost w (encF f)) := by
  obtain ⟨W, hW⟩ : ∃ W, W = w.alloc (.cells (frCells A c B d E k f) 30) := ⟨_, rfl⟩
  have hk0 : Keeps w W := by rw [hW]; exact (Keeps.refl w).alloc _
  have b0 : W.heap[w.heap.size]? = some (.cells (frCells A c B d E k f) 30) := by rw [hW]; exact obj_new w _
  have hwr := refWrong_calls A B E c d k f W hcap (hf.at_later hk0) hw (htb.below hk0.below)
  have hbd := fun w1 (hk : Keeps W w1) (h0 : frWrong f = 0) => refBody_calls A B E c d k f w1 h0 hcap (hf.at_later (hk0.trans hk)) hw (htb.below (hk0.trans hk).below)
  have hlen : frWrong f = 0 → (frBody f).length ≤ 34359738368 := frBody_len hf
  obtain ⟨R, hR⟩ : ∃ R, R = encF f := ⟨_, rfl⟩
  rw [← hR]
  unfold encF at hR
  have HW := Lib.hid hwr
  have HBD := Lib.hid hbd
  have HB := Lib.hid b0
  have HK := Lib.hid hk0
  have HLEN := Lib.hid hlen
  have HR := Lib.hid hR
  unfold frCells at *
  clear hwr hbd b0 hk0 hlen hR hf hw htb hcap
  generalize f.cols.length = NC at *
  generalize f.block.length = NB at *
  generalize f.ents.length = NE at *
  by_cases h0 : frWrong f = 0
  · rw [h0] at HW
    have HR1 : Hid (R = encFin (frBody f ++ le4 (Crc.sum (nats (frBody f))))) := Lib.hid (by rw [HR.out, if_pos h0])
    have hl4 : (frBody f ++ le4 (Crc.sum (nats (frBody f)))).length ≤ 34359738372 := by rw [List.length_append]; have := HLEN.out h0; have e : (le4 (Crc.sum (nats (frBody f)))).length = 4 := rfl; omega
    have HBD1 := Lib.hid (fun w1 hk => HBD.out w1 hk h0)
    clear HR HLEN HBD h0
    generalize frBody f ++ le4 (Crc.sum (nats (frBody f))) = Q at *
    go_enter Tryz.func6, Tryz.ntmps6
    go_wp2_with fail
    rw [← hW]
    clear hW
    refine HW.out.mono ?_
    rintro e w1 ⟨rfl, hk1⟩
    have hbb := (hk1.below.block _ (obj_lt HB.out)).trans HB.out
    obtain ⟨d0, d1, d2, d3, d4, d5, d6, d7, d8, d9, d10⟩ := cells11 hbb
    have u1 := obj_lt hbb
    have HC := Lib.hid (HBD1.out w1 hk1)
    have HK1 := Lib.hid (HK.out.trans hk1)
    clear hk1 hbb HBD1 HW HB
    go_wp2_with fail
    refine HC.out.mono ?_
    rintro e w2 ⟨v2, rfl, hown2, hk2⟩
    obtain ⟨A2, M2, c2, rfl, HM2, HR2⟩ := hown2.seen
    have hst := refStuff_calls A2 c2 Q w2 (by omega) HR2.out
    rw [HM2.out] at hst
    have HST := Lib.hid hst
    have HK2 := Lib.hid (HK1.out.trans hk2)
    clear hst hown2 hk2 HC d0 d1 d2 d3 d4 d5 d6 d7 d8 d9 d10 u1
    go_wp2_with fail
    refine HST.out.mono ?_
    rintro e w3 ⟨v3, rfl, hown3, hk3⟩
    obtain ⟨A3, M3, c3, rfl, HM3, HR3⟩ := hown3.seen
    have HK3 := Lib.hid (HK2.out.trans hk3)
    clear hown3 hk3 HST
    by_cases hL : 2200 < M3
    · have HE : Hid (R = .error 2) := Lib.hid (by rw [HR1.out]; unfold encFin; rw [if_pos (by rw [HM3.out]; exact hL)])
      clear HR1
      go_wp2
      go_ret2
      rw [HE.out]
      exact ⟨rfl, HK3.out⟩
    · have HE : Hid (R = .ok (0 :: (stuffOf Q ++ [0]))) := Lib.hid (by rw [HR1.out]; unfold encFin; rw [if_neg (by rw [HM3.out]; exact hL)])
      have hM3 : M3 ≤ 2200 := by omega
      have HM3L := Lib.hid hM3
      clear HR1
      obtain ⟨W4, hW4⟩ : ∃ W4, W4 = w3.alloc (.cells #[.int .u8 0] 5) := ⟨_, rfl⟩
      have hk4 : Keeps w3 W4 := by rw [hW4]; exact (Keeps.refl w3).alloc _
      have hown4 : OwnB 5 W4 w.heap.size (.slice (some ⟨w3.heap.size, 0, none⟩) 1 1) [0] := by
        rw [hW4]; exact OwnB.new1 _ 0 _ rfl _ _ rfl HK3.out.size
      have HO4 := Lib.hid hown4
      have HK4 := Lib.hid (HK3.out.trans hk4)
      have HR4 := Lib.hid (HR3.out.below hk4)
      have HW4 := Lib.hid hW4
      clear hk4 hown4 hW4
      go_wp2_with (at_builtin; rw [← HW4.out]; refine wpList_append_bytes (w0 := w) w.heap.size rfl _ _ 25 5 rfl Tryz.underlying25 info_u8b (.slice (some ⟨w3.heap.size, 0, none⟩) 1 1) [0] (stuffOf Q) rfl HO4.out A3 c3 (by rw [HM3.out]; rfl) HR4.out ?c2 HK4.out.size HK4.out ?_)
      case c2 => have := HM3.out; have := HM3L.out; simp; omega
      intro v5 w5 hown5 hb5 _ _
      obtain ⟨A5, M5, c5, rfl, hown5'⟩ := hown5.named (l' := [0] ++ stuffOf Q) rfl
      have hk5 : Keeps w w5 := hb5
      obtain ⟨W6, hW6⟩ : ∃ W6, W6 = w5.alloc (.cells #[.int .u8 0] 5) := ⟨_, rfl⟩
      have hk6 : Keeps w5 W6 := by rw [hW6]; exact (Keeps.refl w5).alloc _
      have HR6 := Lib.hid (show Reads W6 (some ⟨w5.heap.size, 0, none⟩) [0] by rw [hW6]; exact Reads.new _ _ _ _ _ rfl)
      have HO6 := Lib.hid (hown5'.below hk6)
      have HK6 := Lib.hid (hk5.trans hk6)
      have HW6 := Lib.hid hW6
      clear hown5 hown5' hb5 hk5 hk6 hW6
      go_wp2_with (at_builtin; rw [← HW6.out]; refine wpList_append_bytes (w0 := w) w.heap.size rfl _ _ 25 5 rfl Tryz.underlying25 info_u8b (.slice A5 M5 c5) ([0] ++ stuffOf Q) [0] rfl HO6.out (some ⟨w5.heap.size, 0, none⟩) 1 rfl HR6.out ?e2 HK6.out.size HK6.out ?_)
      case e2 => have := HM3.out; have := HM3L.out; rw [List.length_append]; simp; omega
      intro v7 w7 hown7 hb7 _ _
      obtain ⟨A7, M7, c7, rfl, hown7'⟩ := hown7.named (l' := 0 :: (stuffOf Q ++ [0])) (by simp)
      have HO7 := Lib.hid hown7'
      have HK7 : Hid (Keeps w w7) := Lib.hid hb7
      clear hown7 hown7' hb7
      go_wp2
      go_ret2
      rw [HE.out]
      exact ⟨_, rfl, HO7.out, HK7.out⟩
  · have HE : Hid (R = .error (frWrong f)) := Lib.hid (by rw [HR.out, if_neg h0])
    have qe : (frWrong f != 0) = true := by simpa using h0
    generalize frWrong f = X at *
    clear HR HLEN HBD h0
    go_enter Tryz.func6, Tryz.ntmps6
    go_wp2_with fail
    rw [← hW]
    clear hW
    refine HW.out.mono ?_
    rintro e w1 ⟨rfl, hk1⟩
    have HK1 := Lib.hid (HK.out.trans hk1)
    clear hk1
    go_wp2
    go_ret2
    rw [HE.out]
    exact ⟨rfl, HK1.out⟩
end Go.Proofs.YtbhhhkilljnkfaaGreatDoor
/- The walk of FrameEncodes. Condition: the frame reads, its capacities are Go's; the tables are as laid. -/
namespace Go.Proofs.YtbhhhkilljnkfaaGreatDoor
open Go.RowKit Go.BigFrame
set_option linter.unusedVariables false
set_option linter.unusedSimpArgs false
attribute [local go_sem] run_storeF

/-- what both Encodes tell: the bytes, nil where there is an error, and the error -/
def encL (r : Except Int (List UInt8)) : List UInt8 := match r with | .error _ => [] | .ok l => l
def encE (r : Except Int (List UInt8)) : Int := match r with | .error x => x | .ok _ => 0
theorem FPost.told {w w' : World} {r : Except Int (List UInt8)} {e : Ending} (h : FPost w r e w') : ∃ A M c, e = .returned (.tuple #[.slice A M c, .int .i64 (encE r)]) ∧ Hid ((encL r).length = M) ∧ Hid (Reads w' A (encL r)) ∧ Keeps w w' := by
  cases r with
  | error x =>
    obtain ⟨h1, h2⟩ : _ ∧ _ := h
    exact ⟨none, 0, 0, h1, Lib.hid rfl, Lib.hid (Reads.nil _ _), h2⟩
  | ok l =>
    obtain ⟨v, h1, h2, h3⟩ : ∃ v, _ ∧ _ ∧ _ := h
    obtain ⟨A, M, c, rfl, hM, hR⟩ := h2.seen
    exact ⟨A, M, c, h1, hM, hR, h3⟩
theorem FPost.len {r : Except Int (List UInt8)} {f : Fr} (h : encF f = r) : (encL r).length ≤ 2202 := by
  subst h
  unfold encF
  split
  · unfold encFin
    split
    · simp [encL]
    · rename_i h
      simp only [encL, List.length_cons, List.length_append, List.length_nil]
      omega
  · simp [encL]

set_option maxRecDepth 20000 in
set_option maxHeartbeats 4000000 in
theorem frEncodes_calls (A B E : Option Addr) (c d k : Nat) (f : Fr) (w : World) (hcap : f.cols.length ≤ c) (hf : FrS w (fun b => b < w.heap.size) A B E f) (hw : f.wf) (htb : Tabs w) (ht : Table w) :
    Calls Tryz.prog 3 #[.agg (frCells A c B d E k f)] w fun e w' => e = .returned (.bool true) ∧ Keeps w w' := by
  obtain ⟨W, hW⟩ : ∃ W, W = (w.alloc (.cells (frCells A c B d E k f) 30)).alloc (.cells #[] 5) := ⟨_, rfl⟩
  have hk0 : Keeps w W := by rw [hW]; exact ((Keeps.refl w).alloc _).alloc _
  have b0 : W.heap[w.heap.size]? = some (.cells (frCells A c B d E k f) 30) := by rw [hW]; exact obj_old (obj_new w _) _
  have hown : OwnB 5 W w.heap.size (.slice (some ⟨w.heap.size + 1, 0, none⟩) 0 0) [] := by
    have h := OwnB.lit 5 (w.alloc (.cells (frCells A c B d E k f) 30)) w.heap.size [] #[] rfl (by simp) (by simp)
    rw [← hW] at h
    simpa using h
  have hE1 := fun w1 (hk : Keeps w w1) => encode_calls A B E c d k f w1 (hf.at_later hk) hw (htb.below hk.below) (ht.later hk.below)
  have hE2 := fun w1 (hk : Keeps w w1) => refEncode_calls A B E c d k f w1 hcap (hf.at_later hk) hw (htb.below hk.below)
  have hlb := hf.lenB
  have hel : (encL (encF f)).length ≤ 2202 := FPost.len rfl
  generalize encF f = R at hE1 hE2 hel
  have H1 := Lib.hid hE1
  have H2 := Lib.hid hE2
  have HB := Lib.hid b0
  have HK := Lib.hid hk0
  have HO := Lib.hid hown
  have HRB := Lib.hid hf.blk
  have HTB := Lib.hid htb
  have HT := Lib.hid ht
  have HEL := Lib.hid hel
  have HW0 := Lib.hid hW
  unfold frCells at *
  clear hE1 hE2 b0 hk0 hown hf hw htb ht hcap hel hW
  generalize f.cols.length = NC at *
  generalize hNB : f.block.length = NB at *
  have HNB := Lib.hid hNB
  clear hNB
  generalize f.ents.length = NE at *
  go_enter Tryz.func3, Tryz.ntmps3
  go_wp2_with (at_builtin; rw [← HW0.out]; refine wpList_append_bytes (w0 := w) w.heap.size rfl _ _ 25 5 rfl Tryz.underlying25 info_u8b (.slice (some ⟨w.heap.size + 1, 0, none⟩) 0 0) [] f.block rfl HO.out B d (by rw [HNB.out]; rfl) (HRB.out.below HK.out.below) ?c2 HK.out.size HK.out ?_)
  case c2 => have := HNB.out; simp; omega
  intro v3 w3 hown3 hb3 hg3 _
  have hbb : w3.heap[w.heap.size]? = _ := (hg3.block _ (obj_lt HB.out) (by simp [Value.ownBlock])).trans HB.out
  obtain ⟨A3, M3, c3, rfl, hown3'⟩ := hown3.named (l' := f.block) (by simp)
  obtain ⟨A4, M4, c4, e4, HM3, HR3⟩ := hown3'.seen
  injection e4 with g1 g2 g3
  subst g1 g2 g3
  have HK3 : Hid (Keeps w w3) := Lib.hid hb3
  have HB3 := Lib.hid hbb
  obtain ⟨⟨p0, p1, p2, p3, p4, p5, p6, p7, p8, p9, p10⟩, _⟩ := cells11 HB3.out
  have u3 := obj_lt HB3.out
  clear hown3 hown3' hb3 hg3 hbb HO HW0
  go_wp2_with fail
  refine (H1.out w3 HK3.out).mono ?_
  rintro e w4 hp4
  obtain ⟨A5, M5, c5, rfl, HM5, HR5, hk4⟩ := hp4.told
  clear p0 p1 p2 p3 p4 p5 p6 p7 p8 p9 p10 u3 hp4
  have HB4 := Lib.hid ((hk4.below.block _ (obj_lt HB3.out)).trans HB3.out)
  have HK4 := Lib.hid hk4
  obtain ⟨⟨p0, p1, p2, p3, p4, p5, p6, p7, p8, p9, p10⟩, _⟩ := cells11 HB4.out
  have u4 := obj_lt HB4.out
  clear hk4
  go_wp2_with fail
  refine (H2.out w4 (HK3.out.trans HK4.out)).mono ?_
  rintro e w5 hp5
  obtain ⟨A6, M6, c6, rfl, HM6, HR6, hk5⟩ := hp5.told
  have hlv := live_calls w5 (HTB.out.below (HK3.out.trans (HK4.out.trans hk5)).below) (HT.out.later (HK3.out.trans (HK4.out.trans hk5)).below)
  clear p0 p1 p2 p3 p4 p5 p6 p7 p8 p9 p10 u4 hp5
  have HLV := Lib.hid hlv
  have HK5 := Lib.hid hk5
  generalize encE R = X
  have qX : (X == X) = true := by simp
  clear hk5 hlv
  go_wp2_with fail
  refine HLV.out.mono ?_
  rintro e w6 ⟨rfl, hk6⟩
  have hs1 := same12_calls A5 A6 c5 c6 (encL R) (encL R) w6 (by have := HEL.out; omega) (by have := HEL.out; omega) (HR5.out.below (HK5.out.trans hk6).below) (HR6.out.below hk6.below)
  rw [decide_eq_true rfl] at hs1
  have e56 : M6 = M5 := by rw [← HM5.out, ← HM6.out]
  subst e56
  rw [HM6.out] at hs1
  have HS1 := Lib.hid hs1
  have HK6 := Lib.hid hk6
  clear hs1 hk6 HLV
  go_wp2_with fail
  refine HS1.out.mono ?_
  rintro e w7 ⟨rfl, hq7⟩
  have hk37 : Keeps w3 w7 := (HK4.out.trans (HK5.out.trans HK6.out)).quiet hq7
  have hbb : w7.heap[w.heap.size]? = _ := (hk37.below.block _ (obj_lt HB3.out)).trans HB3.out
  have d6 : w7.cell? ⟨w.heap.size, 6, none⟩ = some (.slice B NB d) := by rw [obj_cell hbb]; rfl
  have u7 := obj_lt hbb
  have hs2 := same12_calls B A3 d c3 f.block f.block w7 (by have := HNB.out; omega) (by have := HNB.out; omega) (HRB.out.below (HK3.out.trans hk37).below) (HR3.out.below hk37.below)
  rw [decide_eq_true rfl] at hs2
  have e37 : M3 = NB := by rw [← HM3.out, ← HNB.out]
  subst e37
  rw [HNB.out] at hs2
  have HS2 := Lib.hid hs2
  have HK7 := Lib.hid (HK3.out.trans hk37)
  clear hs2 hq7 hk37 hbb HS1
  go_wp2_with fail
  refine HS2.out.mono ?_
  rintro e w8 ⟨rfl, hq8⟩
  have HK8 := Lib.hid (HK7.out.quiet hq8)
  clear hq8
  go_wp2
  go_ret
  exact ⟨rfl, HK8.out⟩
end Go.Proofs.YtbhhhkilljnkfaaGreatDoor
