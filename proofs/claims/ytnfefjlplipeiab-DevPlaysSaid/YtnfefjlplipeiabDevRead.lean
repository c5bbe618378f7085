/-
  The walks of All, Read, Tail, Clone. Condition: the block stands for the machine.
-/
import Derived.Test.YtnfefjlplipeiabDevCut
import Derived.Deep.RegionWith
namespace Go.Proofs.Ytnfefjlplipeiab
open Go.RowKit Go.BigFrame
set_option linter.unusedVariables false
set_option linter.unusedSimpArgs false

set_option maxHeartbeats 1000000 in
theorem devAll_calls (g : Nat) (S : Nat → Prop) (d : Dv) (w : World) (hd : DV w S g d) (hok : d.Ok) :
    Calls Try.prog 28 #[.pointer (some ⟨g, 0, none⟩)] w fun e w' => ∃ v, e = .returned v ∧ OwnL 5 w' w.heap.size v d.b ∧ Keeps w w' := by
  obtain ⟨v, bp, does, hat, hSg, hSv, hSb, rfl⟩ := hd
  have hsz := hok.size
  obtain ⟨A, c, rfl, hlc, hr, _⟩ := hat.2.1.form
  obtain ⟨c0, c1, c2, c3, c4, c5, c6, c7, fz⟩ := dv_cells hat.1
  have HR := Lib.hid hr
  clear hat hSg hSv hSb hr
  go_enter Try.func28, Try.ntmps28
  go_wp2_with fail
  refine (clone_bytes A c d.b w (by omega) HR.out).mono ?_
  rintro e w' ⟨v, rfl, h1, h2⟩
  go_wp2
  go_ret
  exact ⟨v, rfl, h1, h2⟩

set_option maxHeartbeats 1000000 in
theorem devClone_none (g : Nat) (S : Nat → Prop) (d : Dv) (w : World) (hd : DV w S g d) (hok : d.Ok) (hb : d.bound = none) :
    Calls Try.prog 38 #[.pointer (some ⟨g, 0, none⟩)] w fun e w' => ∃ g2, e = .returned (.pointer (some ⟨g2, 0, none⟩)) ∧ w.heap.size ≤ g2 ∧ DV w' (fun j => w.heap.size ≤ j) g2 d ∧ Keeps w w' := by
  have HD := Lib.hid hd
  obtain ⟨v, bp, does, hat, hSg, hSv, hSb, rfl⟩ := hd
  have HOK := Lib.hid hok
  obtain rfl : bp = .pointer none := by have := hat.2.2; rw [hb] at this; exact this
  obtain ⟨A, c, rfl, hlc, hr, _⟩ := hat.2.1.form
  obtain ⟨c0, c1, c2, c3, c4, c5, c6, c7, fz⟩ := dv_cells hat.1
  have hgs := obj_lt hat.1
  have HB := Lib.hid hb
  clear hat hSg hSv hSb hr hok hb
  go_enter Try.func38, Try.ntmps38
  go_wp2_with fail
  have hb1 : Below w.heap.size w (w.alloc (.cells (dvCells (.slice A d.b.length c) d.quota d.synced d.down (.pointer none) d.counted d.deeds .nilFunc) 62)) := (Below.refl _ w).alloc (Nat.le_refl _) _
  refine (devAll_calls g S d _ (HD.out.below hb1) HOK.out).mono ?_
  rintro e w2 ⟨v2, rfl, ho2, hk2⟩
  have hob : w2.heap[w.heap.size]? = some (.cells (dvCells (.slice A d.b.length c) d.quota d.synced d.down (.pointer none) d.counted d.deeds .nilFunc) 62 (0, 0)) := by
    rw [hk2.below.block w.heap.size (by simp)]
    exact obj_new w _
  obtain ⟨e0, e1, e2, e3, e4, e5, e6, e7, ez⟩ := dv_cells hob
  obtain ⟨A2, cap2, rfl, _⟩ := ho2.form
  have hs2 : w.heap.size + 1 ≤ w2.heap.size := by have := hk2.size; simpa using this
  have d4 : w2.cell? ⟨g, 4, none⟩ = some (.pointer none) := by
    rw [hk2.below.cell (by simp; omega)]
    exact (Below.cell hb1 hgs).trans c4
  have HO2 := Lib.hid ho2
  have HOB := Lib.hid hob
  have HK := Lib.hid (Keeps.trans (show Keeps w _ from hb1) hk2)
  clear hb1 ho2 hob hk2 c0 c1 c2 c3 c4 c5 c6 c7 fz
  go_wp2
  go_ret
  have hT : Touch (At w.heap.size) w2 (w2.setCell ⟨w.heap.size, 0, none⟩ (.slice A2 d.b.length cap2)) := (Touch.refl _ _).set 0 _
  refine ⟨w.heap.size, rfl, Nat.le_refl _, ⟨_, .pointer none, .nilFunc, ⟨obj_set HOB.out 0 (.slice A2 d.b.length cap2), ?_, ?_⟩, Nat.le_refl _, ?_, fun k hk => by simp [bpBlock] at hk, rfl⟩, ?_⟩
  · exact (HO2.out.lower 0 (Nat.zero_le _)).keep hT (fun k hk e => by
      have := (HO2.out.lt k hk).1
      have h4 : k = w.heap.size := e
      simp at this
      omega)
  · rw [HB.out]; rfl
  · intro k hk
    have := (HO2.out.lt k hk).1
    simp at this
    omega
  · exact ((Touch.of_below (F := fun _ => False) HK.out.below (fun k hk hb => absurd hk (by omega))).setCell ⟨w.heap.size, 0, none⟩ _ (fun h => absurd h (by simp))).nothing fun _ _ h => h

set_option maxHeartbeats 1000000 in
theorem devTail_long (g : Nat) (S : Nat → Prop) (d : Dv) (A : Option Addr) (c n : Nat) (w : World) (hd : DV w S g d) (hok : d.Ok) (hl : n ≤ 1152921504606846976) (hn : 2097152 < d.b.length + n) :
    Calls Try.prog 34 #[.pointer (some ⟨g, 0, none⟩), .slice A n c] w fun e w' => e = .returned (.int .i64 2) ∧ Quiet w w' := by
  obtain ⟨v, bp, does, hat, hSg, hSv, hSb, rfl⟩ := hd
  have hsz := hok.size
  obtain ⟨A0, cap, rfl, hlc, hr0, _⟩ := hat.2.1.form
  obtain ⟨c0, c1, c2, c3, c4, c5, c6, c7, fz⟩ := dv_cells hat.1
  have hn' : (2097152 : Int) < (d.b.length : Int) + (n : Int) := by omega
  clear hat hSg hSv hSb hok hr0
  go_enter Try.func34, Try.ntmps34
  go_wp2
  go_ret
  exact ⟨rfl, Quiet.refl w⟩

set_option maxHeartbeats 1000000 in
theorem devTail_fits (g : Nat) (S : Nat → Prop) (d : Dv) (A : Option Addr) (c : Nat) (l : List UInt8) (w : World) (hd : DV w S g d) (hok : d.Ok) (hr : Reads w A l) (hn : d.b.length + l.length ≤ 2097152) :
    Calls Try.prog 34 #[.pointer (some ⟨g, 0, none⟩), .slice A l.length c] w fun e w' => e = .returned (.int .i64 0) ∧ DV w' (More S w) g { d with b := d.b ++ l, synced := d.b.length + l.length } ∧ Touch S w w' := by
  obtain ⟨v, bp, does, hat, hSg, hSv, hSb, rfl⟩ := hd
  have hsz := hok.size
  have HOK := Lib.hid hok
  obtain ⟨A0, cap, rfl, hlc, hr0, _⟩ := hat.2.1.form
  obtain ⟨c0, c1, c2, c3, c4, c5, c6, c7, fz⟩ := dv_cells hat.1
  have hgs := obj_lt hat.1
  have hn' : ¬ (2097152 : Int) < (d.b.length : Int) + (l.length : Int) := by omega
  have HR := Lib.hid hr
  have HAT := Lib.hid hat
  have HS := Lib.hid (show S g ∧ (∀ k, blk (.slice A0 d.b.length cap) = some k → S k) ∧ (∀ k, bpBlock bp = some k → S k) from ⟨hSg, hSv, hSb⟩)
  clear hat hSg hSv hSb hr hok hr0
  go_enter Try.func34, Try.ntmps34
  go_wp2_with (at_builtin; refine wpList_append_loose 0 rfl _ _ 22 5 rfl Try.underlying22 info_u8 _ d.b l rfl ?c0 A c rfl ?c1 ?c2 (Nat.zero_le _) ?_)
  case c0 => exact HAT.out.2.1
  case c1 => exact HR.out
  case c2 => omega
  intro v1 w1 hown hgr hat1
  have hT1 : Touch (fun j => blk (.slice A0 d.b.length cap) = some j) w w1 := (Touch.refl _ w).grown hgr fun i h _ => h
  have hg1 := hT1.obj HAT.out.1 (fun e => HAT.out.apart.1 e)
  obtain ⟨e0, e1, e2, e3, e4, e5, e6, e7, ez⟩ := dv_cells hg1
  have hb1 := HAT.out.2.2.keep hT1 fun k hk e => (HAT.out.apart.2 k hk).2 e
  obtain ⟨A1, cap1, rfl, _⟩ := hown.form
  have hlen : (d.b ++ l).length = d.b.length + l.length := List.length_append
  have HL := Lib.hid hlen
  rw [hlen] at hown hat1
  have HO1 := Lib.hid hown
  have HG1 := Lib.hid hg1
  have HT1 := Lib.hid hT1
  have HB1 := Lib.hid hb1
  have HA1 := Lib.hid hat1
  rw [hlen]
  clear hown hg1 hT1 hb1 hat1 hlen hgr c0 c1 c2 c3 c4 c5 c6 c7 fz
  go_wp2
  go_ret
  have hT : Touch (At g) w1 ((w1.setCell ⟨g, 0, none⟩ (.slice A1 (d.b.length + l.length) cap1)).setCell ⟨g, 2, none⟩ (.int .i64 ((d.b.length : Int) + (l.length : Int)))) := ((Touch.refl (At g) w1).set 0 _).set 2 _
  obtain ⟨s1, s2, s3⟩ := HS.out
  refine ⟨rfl, ⟨.slice A1 (d.b.length + l.length) cap1, bp, .nilFunc, ⟨obj_set (obj_set HG1.out 0 _) 2 _, ?_, ?_⟩, .inl s1, fun k hk => ?_, fun k hk => .inl (s3 k hk), rfl⟩, (HT1.out.mono fun k _ h => s2 k h).trans hT fun k _ h => by rw [show k = g from h]; exact s1⟩
  · have h1 : OwnL 5 w1 0 (.slice A1 (d.b.length + l.length) cap1) (d.b ++ l) := HO1.out
    exact h1.keep hT fun k hk e => h1.ne HG1.out (by decide) (by rw [hk]; exact congrArg some e)
  · exact HB1.out.keep hT fun k hk e => (HAT.out.apart.2 k hk).1 e
  · rcases HA1.out with h | h
    · exact .inl (s2 k (by rw [← h]; exact hk))
    · rw [h] at hk; injection hk with hk; exact .inr (by omega)

theorem devTail_calls (g : Nat) (S : Nat → Prop) (d : Dv) (A : Option Addr) (c : Nat) (l : List UInt8) (w : World) (hd : DV w S g d) (hok : d.Ok) (hl : l.length ≤ 1152921504606846976) (hr : Reads w A l) :
    Calls Try.prog 34 #[.pointer (some ⟨g, 0, none⟩), .slice A l.length c] w fun e w' => e = .returned (.int .i64 (d.tail l).2) ∧ DV w' (More S w) g (d.tail l).1 ∧ Touch S w w' := by
  by_cases h : 2097152 < d.b.length + l.length
  · rw [show d.tail l = (d, 2) by unfold Dv.tail; rw [if_pos h]]
    exact (devTail_long g S d A c l.length w hd hok hl h).mono fun _ _ ⟨he, hq⟩ => ⟨he, hd.same (hq.below _), (Touch.refl S w).quiet hq⟩
  · rw [show d.tail l = ({ d with b := d.b ++ l, synced := d.b.length + l.length }, 0) by unfold Dv.tail; rw [if_neg h]]
    exact devTail_fits g S d A c l w hd hok hr (by omega)

set_option maxHeartbeats 1000000 in
theorem devClone_some (g : Nat) (S : Nat → Prop) (d : Dv) (w : World) (hd : DV w S g d) (hok : d.Ok) (a k : Nat) (hb : d.bound = some (a, k)) :
    Calls Try.prog 38 #[.pointer (some ⟨g, 0, none⟩)] w fun e w' => ∃ g2, e = .returned (.pointer (some ⟨g2, 0, none⟩)) ∧ w.heap.size ≤ g2 ∧ DV w' (fun j => w.heap.size ≤ j) g2 d ∧ Keeps w w' := by
  have HD := Lib.hid hd
  obtain ⟨v, bp, does, hat, hSg, hSv, hSb, rfl⟩ := hd
  have HOK := Lib.hid hok
  have hbd := hat.2.2
  rw [hb] at hbd
  obtain ⟨f, rfl, hf⟩ := hbd
  obtain ⟨A, c, rfl, hlc, hr, _⟩ := hat.2.1.form
  obtain ⟨c0, c1, c2, c3, c4, c5, c6, c7, fz⟩ := dv_cells hat.1
  have hgs := obj_lt hat.1
  have hfs := obj_lt hf
  have HB := Lib.hid hb
  have HFF := Lib.hid hf
  clear hat hSg hSv hSb hr hok hb hf
  go_enter Try.func38, Try.ntmps38
  go_wp2_with fail
  have hb1 : Below w.heap.size w (w.alloc (.cells (dvCells (.slice A d.b.length c) d.quota d.synced d.down (.pointer (some ⟨f, 0, none⟩)) d.counted d.deeds .nilFunc) 62)) := (Below.refl _ w).alloc (Nat.le_refl _) _
  refine (devAll_calls g S d _ (HD.out.below hb1) HOK.out).mono ?_
  rintro e w2 ⟨v2, rfl, ho2, hk2⟩
  have hob : w2.heap[w.heap.size]? = some (.cells (dvCells (.slice A d.b.length c) d.quota d.synced d.down (.pointer (some ⟨f, 0, none⟩)) d.counted d.deeds .nilFunc) 62 (0, 0)) := by
    rw [hk2.below.block w.heap.size (by simp)]
    exact obj_new w _
  obtain ⟨e0, e1, e2, e3, e4, e5, e6, e7, ez⟩ := dv_cells hob
  obtain ⟨A2, cap2, rfl, _⟩ := ho2.form
  have hs2 : w.heap.size < w2.heap.size := by have := hk2.size; simp at this; omega
  have d4 : w2.cell? ⟨g, 4, none⟩ = some (.pointer (some ⟨f, 0, none⟩)) := by
    rw [hk2.below.cell (by simp; omega)]
    exact (Below.cell hb1 hgs).trans c4
  have hf2 : w2.heap[f]? = some (.cells #[.int .i64 (a : Int), .int .i64 (k : Int)] 65 (0, 0)) := by
    rw [hk2.below.block f (by simp; omega)]
    exact obj_old HFF.out _
  obtain ⟨b0, b1, b2, b3⟩ := cells2 hf2
  have HO2 := Lib.hid ho2
  have HOB := Lib.hid hob
  have HK := Lib.hid (Keeps.trans (show Keeps w _ from hb1) hk2)
  clear hb1 ho2 hob hk2 c0 c1 c2 c3 c4 c5 c6 c7 fz hf2
  go_wp2
  go_ret
  have hT : Touch (At w.heap.size) w2 (((w2.setCell ⟨w.heap.size, 0, none⟩ (.slice A2 d.b.length cap2)).setCell ⟨w.heap.size, 4, none⟩ (.pointer (some ⟨w2.heap.size, 0, none⟩))).alloc (.cells #[.int .i64 (a : Int), .int .i64 (k : Int)] 65)) := (((Touch.refl _ _).set 0 _).set 4 _).alloc _
  refine ⟨w.heap.size, rfl, Nat.le_refl _, ⟨_, .pointer (some ⟨w2.heap.size, 0, none⟩), .nilFunc, ⟨obj_old (obj_set (obj_set HOB.out 0 (.slice A2 d.b.length cap2)) 4 (.pointer (some ⟨w2.heap.size, 0, none⟩))) _, ?_, ?_⟩, Nat.le_refl _, ?_, fun j hj => ?_, rfl⟩, ?_⟩
  · exact (HO2.out.lower 0 (Nat.zero_le _)).keep hT (fun k hk e => by
      have := (HO2.out.lt k hk).1
      have h4 : k = w.heap.size := e
      simp at this
      omega)
  · rw [HB.out]; exact ⟨w2.heap.size, rfl, obj_new_at _ _ _ (by simp [World.setCell])⟩
  · intro k hk
    have := (HO2.out.lt k hk).1
    simp at this
    omega
  · simp only [bpBlock, Option.some.injEq] at hj; omega
  · exact ((((Touch.of_below (F := fun _ => False) HK.out.below (fun k hk hb => absurd hk (by omega))).setCell ⟨w.heap.size, 0, none⟩ _ (fun h => absurd h (by simp))).setCell ⟨w.heap.size, 4, none⟩ _ (fun h => absurd h (by simp))).alloc _).nothing fun _ _ h => h

theorem devClone_calls (g : Nat) (S : Nat → Prop) (d : Dv) (w : World) (hd : DV w S g d) (hok : d.Ok) :
    Calls Try.prog 38 #[.pointer (some ⟨g, 0, none⟩)] w fun e w' => ∃ g2, e = .returned (.pointer (some ⟨g2, 0, none⟩)) ∧ w.heap.size ≤ g2 ∧ DV w' (fun j => w.heap.size ≤ j) g2 d ∧ Keeps w w' := by
  cases hb : d.bound with
  | none => exact devClone_none g S d w hd hok hb
  | some x => exact devClone_some g S d w hd hok x.1 x.2 hb

set_option maxHeartbeats 1000000 in
theorem devRead_out (g : Nat) (S : Nat → Prop) (d : Dv) (a n : Int) (w : World) (hd : DV w S g d) (hok : d.Ok) (h : a < 0 ∨ (d.b.length : Int) < a ∨ n < 0) :
    Calls Try.prog 50 #[.pointer (some ⟨g, 0, none⟩), .int .i64 a, .int .i64 n] w fun e w' => e = .returned (.tuple #[.slice none 0 0, .int .i64 7]) ∧ Quiet w w' := by
  obtain ⟨v, bp, does, hat, hSg, hSv, hSb, rfl⟩ := hd
  have hsz := hok.size
  obtain ⟨A0, cap, rfl, hlc, hr0, _⟩ := hat.2.1.form
  obtain ⟨c0, c1, c2, c3, c4, c5, c6, c7, fz⟩ := dv_cells hat.1
  clear hat hSg hSv hSb hok hr0
  by_cases h1 : a < 0
  · clear h
    go_enter Try.func50, Try.ntmps50
    go_wp2
    go_ret2
    exact ⟨rfl, Quiet.refl w⟩
  · by_cases h2 : (d.b.length : Int) < a
    · clear h
      go_enter Try.func50, Try.ntmps50
      go_wp2
      go_ret2
      exact ⟨rfl, Quiet.refl w⟩
    · have h3 : n < 0 := by omega
      clear h
      go_enter Try.func50, Try.ntmps50
      go_wp2
      go_ret2
      exact ⟨rfl, Quiet.refl w⟩

set_option maxHeartbeats 1000000 in
theorem devRead_in (g : Nat) (S : Nat → Prop) (d : Dv) (a n : Nat) (w : World) (hd : DV w S g d) (hok : d.Ok) (hct : d.counted ≤ 9223372036852678655) (h : a ≤ d.b.length) (hn : n ≤ 9223372036854775807) :
    Calls Try.prog 50 #[.pointer (some ⟨g, 0, none⟩), .int .i64 (a : Int), .int .i64 (n : Int)] w fun e w' => ∃ v, e = .returned (.tuple #[v, .int .i64 0]) ∧ OwnL 5 w' w.heap.size v ((d.b.drop a).take n) ∧ DV w' S g { d with counted := d.counted + ((d.b.drop a).take n).length } ∧ Touch S w w' := by
  have HD := Lib.hid hd
  obtain ⟨v, bp, does, hat, hSg, hSv, hSb, rfl⟩ := hd
  have hsz := hok.size
  have HOK := Lib.hid hok
  obtain ⟨A0, cap, rfl, hlc, hr0, hcm, hnil⟩ := hat.2.1.form
  obtain ⟨c0, c1, c2, c3, c4, c5, c6, c7, fz⟩ := dv_cells hat.1
  have hgs := obj_lt hat.1
  have h1 : ¬ (a : Int) < 0 := by omega
  have h2 : ¬ (d.b.length : Int) < (a : Int) := by omega
  have h3 : ¬ (n : Int) < 0 := by omega
  have HR := Lib.hid hr0
  have HAT := Lib.hid hat
  have HS := Lib.hid (show S g ∧ (∀ k, blk (.slice A0 d.b.length cap) = some k → S k) ∧ (∀ k, bpBlock bp = some k → S k) from ⟨hSg, hSv, hSb⟩)
  clear hat hSg hSv hSb hok hr0
  obtain ⟨m, hm⟩ : ∃ m : Nat, m = min n (d.b.length - a) := ⟨_, rfl⟩
  have hmin : min (n : Int) ((d.b.length : Int) - (a : Int)) = (m : Int) := by omega
  have hlen : ((d.b.drop a).take n).length = m := by rw [List.length_take, List.length_drop]; omega
  have ham : a + m ≤ cap := by omega
  have HLEN := Lib.hid hlen
  clear hlen
  have hm2 : m ≤ 2097152 := by omega
  clear hm
  have hwa : IntKind.i64.wrap ((d.b.length : Int) - (a : Int)) = (d.b.length : Int) - (a : Int) := by rw [IntKind.wrap_i64]; omega
  obtain ⟨t, ht⟩ : ∃ t : Nat, t = a + m := ⟨_, rfl⟩
  have hwb : IntKind.i64.wrap ((a : Int) + (m : Int)) = (t : Int) := by rw [IntKind.wrap_i64, ht]; omega
  have hat1 : a ≤ t := by omega
  have htc : t ≤ cap := by omega
  have HT := Lib.hid ht
  clear ht
  obtain ⟨Z, hif⟩ : ∃ Z, (if cap = a then A0 else Option.map (fun x => x.add a) A0) = Z := ⟨_, rfl⟩
  obtain ⟨part, hpart⟩ : ∃ part, part = (d.b.drop a).take n := ⟨_, rfl⟩
  have hrp : Reads w Z part := by
    rw [hpart]
    refine (HR.out.drop_any a Z fun hlt ad e => ?_).take n
    rw [← hif, if_neg (by omega), e]
    rfl
  have hpl : t - a = part.length := by rw [hpart, HLEN.out, HT.out]; omega
  have hpm : part.length ≤ 2097152 := by rw [hpart, HLEN.out]; exact hm2
  have HRP := Lib.hid hrp
  have HPL := Lib.hid hpl
  rw [← hpart]
  clear hrp hpl hpart HLEN HT
  go_enter Try.func50, Try.ntmps50
  go_wp2_with fail
  go_still_tail 17, (by kernel_rfl)
  change wpList _ _ _ _ _ w.drew
  go_wp2_with fail
  rw [HPL.out]
  refine (clone_bytes Z (cap - a) part w.drew (by omega) HRP.out).mono ?_
  rintro e w1 ⟨v1, rfl, ho1, hk1⟩
  obtain ⟨A1, cap1, rfl, _⟩ := ho1.form
  have hkw : Keeps w w1 := (Keeps.drew w).trans hk1
  have hg1 : w1.heap[g]? = some (.cells (dvCells (.slice A0 d.b.length cap) d.quota d.synced d.down bp d.counted d.deeds .nilFunc) 62 (0, 0)) := by
    rw [hkw.below.block g hgs]; exact HAT.out.1
  obtain ⟨e0, e1, e2, e3, e4, e5, e6, e7, ez⟩ := dv_cells hg1
  have HG1 := Lib.hid hg1
  have HO1 := Lib.hid ho1
  have HK := Lib.hid hkw
  clear hg1 ho1 hk1 hkw c0 c1 c2 c3 c4 c5 c6 c7 fz hif
  go_wp2
  go_ret2
  have hT : Touch (fun _ => False) w w1 := Touch.of_below HK.out.below fun k hk hb => absurd hk (by omega)
  have hat1 := (HAT.out.keep hT (fun h => h) (fun _ _ h => h) (fun _ _ h => h)).poke (d' := { d with counted := d.counted + part.length }) 5 (.int .i64 ((d.counted : Int) + (part.length : Int))) (by rfl) rfl rfl
  obtain ⟨s1, s2, s3⟩ := HS.out
  refine ⟨_, rfl, ?_, ⟨_, bp, .nilFunc, hat1, s1, s2, s3, rfl⟩, (hT.mono fun _ _ h => h.elim).setCell _ _ fun _ => s1⟩
  exact HO1.out.far (p := ⟨g, 5, none⟩) (fun hk => by have := (HO1.out.lt g hk).1; simp at this; omega) _

theorem devRead_calls (g : Nat) (S : Nat → Prop) (d : Dv) (a n : Int) (w : World) (hd : DV w S g d) (hok : d.Ok) (hct : d.counted ≤ 9223372036852678655) (hn : n ≤ 9223372036854775807) :
    Calls Try.prog 50 #[.pointer (some ⟨g, 0, none⟩), .int .i64 a, .int .i64 n] w fun e w' => ∃ v, e = .returned (.tuple #[v, .int .i64 (d.read a n).2.2]) ∧ OwnL 5 w' w.heap.size v (d.read a n).2.1 ∧ DV w' S g (d.read a n).1 ∧ Touch S w w' := by
  by_cases h : a < 0 ∨ (d.b.length : Int) < a ∨ n < 0
  · rw [show d.read a n = (d, [], 7) by unfold Dv.read; rw [if_pos h]]
    exact (devRead_out g S d a n w hd hok h).mono fun _ _ ⟨he, hq⟩ => ⟨_, he, OwnL.empty _ _ _ none, hd.below (hq.below _), (Touch.refl S w).quiet hq⟩
  · obtain ⟨a', rfl⟩ := Int.eq_ofNat_of_zero_le (show 0 ≤ a by omega)
    obtain ⟨n', rfl⟩ := Int.eq_ofNat_of_zero_le (show 0 ≤ n by omega)
    rw [show d.read (a' : Int) (n' : Int) = ({ d with counted := d.counted + ((d.b.drop a').take n').length }, (d.b.drop a').take n', 0) by unfold Dv.read; rw [if_neg h]; rfl]
    exact devRead_in g S d a' n' w hd hok hct (by omega) (by omega)
end Go.Proofs.Ytnfefjlplipeiab
