/-
  The walk of FrameBack. Condition: the frame and the bytes read; the tables are as laid. The frame at a place of a file: plain. No condition. What a frame's reading tells and how a file stands behind it: plain. No condition. The walk of laid: two files with the same bytes. Condition: the bytes read, at most 2097152. The walk of scan.large. Condition: the numbers read as a row.
-/
import Derived.Test.YtihodcnnappkbaaGreatDoorG10
import Derived.Test.YtihodcnnappkbaaGreatDoorG11
import Derived.Test.YtihodcnnappkbaaGreatDoorG9
import Derived.Test.YtihodcnnappkbaaGreatDoorG12
import Derived.Test.YtihodcnnappkbaaGreatDoorG13
import Derived.Test.YtihodcnnappkbaaGreatDoorG7
namespace Go.Proofs.YtihodcnnappkbaaGreatDoor
open Go.RowKit Go.BigFrame
set_option linter.unusedVariables false
set_option linter.unusedSimpArgs false
theorem encF_nz {f : Fr} {e : Int} (h : encF f = .error e) : e ≠ 0 := by
  unfold encF at h
  split at h
  · unfold encFin at h
    split at h
    · injection h with h; omega
    · cases h
  · rename_i h0
    injection h with h
    rw [← h]
    exact h0
theorem takeF_nz {l : List UInt8} {e : Int} (h : takeF l = .error e) : e ≠ 0 := by
  cases l with
  | nil => injection h with h; omega
  | cons b t =>
    rw [takeF] at h
    split at h
    · unfold takeS at h
      simp only at h
      split at h
      · injection h with h; omega
      · split at h
        · rename_i hd
          injection h with h
          subst h
          exact decodeS_nz hd
        · cases h
    split at h
    · unfold takeD at h
      simp only at h
      split at h
      · injection h with h; omega
      · cases h
    split at h
    · unfold takeI at h
      simp only at h
      split at h
      · injection h with h; omega
      · cases h
    · injection h with h; omega
theorem decF_nz {l : List UInt8} {e : Int} (h : decF l = .error e) : e ≠ 0 := by
  unfold decF at h
  split at h
  · injection h with h; omega
  split at h
  · rename_i h2
    injection h with h
    rw [← h]
    exact h2
  split at h
  · injection h with h; omega
  split at h
  · injection h with h; omega
  · exact takeF_nz h
end Go.Proofs.YtihodcnnappkbaaGreatDoor
namespace Go.Proofs.YtihodcnnappkbaaGreatDoor
open Go.RowKit Go.BigFrame
def fetchF (r : Except Int Fr) (p : Int) : Except Int (Fr × Int) := match r with | .error e => .error e | .ok f => .ok (f, p)
def fetchT (t : List UInt8) (a : Int) : Except Int (Fr × Int) :=
  if (nz t).length < t.length then (if (nz t).length = 0 then .error 4 else fetchF (decF (nz t)) (a + ((nz t).length : Int) + 2))
  else if t.length = 2201 then .error 2 else .error 142
def fetchB (b : List UInt8) (a : Int) : Except Int (Fr × Int) :=
  match b with
  | [] => .error 142
  | x :: t => if x ≠ 0 then .error 141 else fetchT t a
def fetch (d : Dv) (a : Int) : Except Int (Fr × Int) :=
  if d.down then .error 50
  else if a < 0 ∨ (d.b.length : Int) < a then .error 7
  else if a = (d.b.length : Int) then .error 140
  else fetchB ((d.b.drop a.toNat).take 2202) a
def fetchD (d : Dv) (a : Int) : Dv := if d.down ∨ a < 0 ∨ (d.b.length : Int) ≤ a then d else (d.read a 2202).1
def FetchPost (w : World) (r : Except Int (Fr × Int)) (e : Ending) (w' : World) : Prop :=
  match r with
  | .error x => e = .returned (.tuple #[.agg (frCells none 0 none 0 none 0 frZero), .int .i64 0, .int .i64 x])
  | .ok (f, n) => ∃ A c B d E k, e = .returned (.tuple #[.agg (frCells A c B d E k f), .int .i64 n, .int .i64 0]) ∧ FrO w' w.heap.size A B d E k f
theorem nz_take (t : List UInt8) : t.take (nz t).length = nz t := by
  have h : (nz t ++ t.drop (nz t).length).take (nz t).length = nz t := List.take_left' rfl
  rwa [← nz_append t] at h
theorem nz_at {t : List UInt8} {i : Nat} (hi : i < t.length) (h : i ≤ (nz t).length) : t[i] = 0 ↔ (nz t).length = i := by
  constructor
  · intro h0
    by_cases e : (nz t).length = i
    · exact e
    · have hlt : i < (nz t).length := by omega
      have h1 : (nz t)[i]'hlt = t[i] := by
        have h2 : (t.take (nz t).length)[i]'(by rw [List.length_take]; omega) = t[i] := List.getElem_take
        rw [← h2]
        congr 1
        exact (nz_take t).symm
      exact absurd (h0 ▸ h1 ▸ List.getElem_mem hlt) (nz_no t)
  · intro e
    subst e
    have := nz_stop t hi
    rw [List.getD_eq_getElem?_getD, List.getElem?_eq_getElem hi] at this
    exact this
theorem touch_new {F : Nat → Prop} {w a b : World} {g : Nat} (h : Touch F w a) (k : Touch (At g) a b) (hg : w.heap.size ≤ g) : Touch F w b :=
  h.trans k fun i hi e => by rw [At] at e; omega
theorem fetchD_read {d : Dv} {a : Int} (h1 : d.down = false) (h2 : 0 ≤ a) (h3 : a < (d.b.length : Int)) : fetchD d a = (d.read a 2202).1 := by
  unfold fetchD
  rw [if_neg]
  rintro (h | h | h)
  · rw [h1] at h; cases h
  · omega
  · omega
theorem fetchD_same {d : Dv} {a : Int} (h : d.down = true ∨ a < 0 ∨ (d.b.length : Int) ≤ a) : fetchD d a = d := by
  unfold fetchD
  rw [if_pos h]
theorem touch11 {w1 : World} {g : Nat} (u0 u1 u2 u3 u4 u5 u6 u7 u8 u9 u10 : Value) : Touch (At g) w1 (((((((((((w1.setCell ⟨g, 0, none⟩ u0).setCell ⟨g, 1, none⟩ u1).setCell ⟨g, 2, none⟩ u2).setCell ⟨g, 3, none⟩ u3).setCell ⟨g, 4, none⟩ u4).setCell ⟨g, 5, none⟩ u5).setCell ⟨g, 6, none⟩ u6).setCell ⟨g, 7, none⟩ u7).setCell ⟨g, 8, none⟩ u8).setCell ⟨g, 9, none⟩ u9).setCell ⟨g, 10, none⟩ u10) :=
  (((((((((((Touch.refl (At g) w1).set 0 u0).set 1 u1).set 2 u2).set 3 u3).set 4 u4).set 5 u5).set 6 u6).set 7 u7).set 8 u8).set 9 u9).set 10 u10
end Go.Proofs.YtihodcnnappkbaaGreatDoor
namespace Go.Proofs.YtihodcnnappkbaaGreatDoor
open Go.RowKit Go.BigFrame
set_option linter.unusedVariables false
set_option linter.unusedSimpArgs false
theorem fetch_dec {d : Dv} {a : Int} {f : Fr} {n : Int} (h : fetch d a = .ok (f, n)) : ∃ run, decF run = .ok f := by
  have hF : ∀ {r : Except Int Fr} {p : Int}, fetchF r p = .ok (f, n) → r = .ok f := fun {r p} h => by
    cases r with
    | error x => cases h
    | ok g =>
      simp only [fetchF, Except.ok.injEq, Prod.mk.injEq] at h
      rw [h.1]
  have hT : ∀ {t : List UInt8}, fetchT t a = .ok (f, n) → ∃ run, decF run = .ok f := fun {t} h => by
    unfold fetchT at h
    split at h
    · split at h
      · cases h
      · exact ⟨_, hF h⟩
    · split at h
      · cases h
      · cases h
  unfold fetch at h
  split at h
  · cases h
  · split at h
    · cases h
    · split at h
      · cases h
      · unfold fetchB at h
        split at h
        · cases h
        · split at h
          · cases h
          · exact hT h
def outF (r : Except Int (Fr × Int)) : Fr × Int × Int := match r with | .error x => (frZero, 0, x) | .ok (f, n) => (f, n, 0)
theorem FetchPost.form {w w' : World} {d : Dv} {a : Int} {e : Ending} (h : FetchPost w (fetch d a) e w') :
    ∃ A c B m E k, e = .returned (.tuple #[.agg (frCells A c B m E k (outF (fetch d a)).1), .int .i64 (outF (fetch d a)).2.1, .int .i64 (outF (fetch d a)).2.2]) ∧ FrS w' (fun b => w.heap.size ≤ b) A B E (outF (fetch d a)).1 := by
  cases hr : fetch d a with
  | error x =>
    rw [hr] at h
    exact ⟨none, 0, none, 0, none, 0, h, FrS.none _ _ rfl rfl rfl _ _ _⟩
  | ok p =>
    obtain ⟨f, n⟩ := p
    obtain ⟨run, hd⟩ := fetch_dec hr
    rw [hr] at h
    obtain ⟨A, c, B, m, E, k, rfl, ho⟩ := h
    exact ⟨A, c, B, m, E, k, rfl, ho.toS (dec_len hd).1 (dec_len hd).2⟩
theorem fetchD_facts (d : Dv) (a : Int) : (fetchD d a).b = d.b ∧ (fetchD d a).down = d.down ∧ d.counted ≤ (fetchD d a).counted ∧ (fetchD d a).counted ≤ d.counted + 2202 ∧ (d.Ok → (fetchD d a).Ok) := by
  unfold fetchD
  split
  · exact ⟨rfl, rfl, Nat.le_refl _, by omega, fun h => h⟩
  · unfold Dv.read
    split
    · exact ⟨rfl, rfl, Nat.le_refl _, by omega, fun h => h⟩
    · refine ⟨rfl, rfl, by simp only; omega, ?_, fun h => ⟨h.synced, h.size, h.quota, h.fits⟩⟩
      simp only [List.length_take]
      omega
def laidD (l : List UInt8) : Dv := ⟨l, 1048576, l.length, false, none, 0, 0⟩
theorem laidD_ok {l : List UInt8} (h : l.length ≤ 2097152) : (laidD l).Ok := ⟨Nat.le_refl _, h, Nat.le_refl _, fun _ _ h => by cases h⟩
theorem laidD_tail {l : List UInt8} (h : l.length ≤ 2097152) : (Dv.fresh 1048576).tail l = (laidD l, 0) := by
  unfold Dv.tail
  rw [if_neg (by simp [Dv.fresh]; omega)]
  simp [Dv.fresh, laidD]
theorem fresh_dv (w : World) (q : Nat) : DV (w.alloc (freshDev (q : Int))) (At w.heap.size) w.heap.size (Dv.fresh q) :=
  ⟨.slice none 0 0, .pointer none, .nilFunc, ⟨obj_new _ _, OwnL.empty _ _ _ _, rfl⟩, rfl, fun k hk => by simp [blk] at hk, fun k hk => by simp [bpBlock] at hk, rfl⟩
theorem reads_lt {w : World} {A : Option Addr} {l : List UInt8} (h : Reads w A l) : ∀ a, A = some a → l ≠ [] → a.block < w.heap.size := fun a e hn => by
  have hp : 0 < l.length := List.length_pos_iff.2 hn
  obtain ⟨ad, e1, hcell⟩ := h.out 0 hp
  rw [e] at e1
  cases e1
  have := World.block_lt_of_cell? w _ hcell
  rwa [addr_add_block] at this
def Pair (w : World) (S1 S2 : Nat → Prop) (gd gr : Nat) (x : Dv) : Prop := DV w S1 gd x ∧ RV w S2 gr x
set_option maxRecDepth 20000 in
set_option maxHeartbeats 4000000 in
theorem laid_calls (A : Option Addr) (c : Nat) (l : List UInt8) (w : World) (hl : l.length ≤ 2097152) (hr : Reads w A l) :
    Calls Tryz.prog 16 #[.slice A l.length c] w fun e w' => ∃ gd gr S1 S2, e = .returned (.tuple #[.pointer (some ⟨gd, 0, none⟩), .pointer (some ⟨gr, 0, none⟩)]) ∧ Pair w' S1 S2 gd gr (laidD l) ∧ (∀ k, S1 k → ¬ S2 k) ∧ (∀ k, S1 k ∨ S2 k → w.heap.size ≤ k ∧ k < w'.heap.size) ∧ Keeps w w' := by
  obtain ⟨Q, hQ⟩ : ∃ Q : Nat, Q = 1048576 := ⟨_, rfl⟩
  have hQi : (Q : Int) = 1048576 := by omega
  have hQl : (Dv.fresh Q).tail l = (laidD l, 0) := by rw [hQ]; exact laidD_tail hl
  have hQo := fresh_ok Q (by omega)
  have h1 := new_yes 1048576 w (by omega) (by omega)
  have H1 := Lib.hid h1
  have HR := Lib.hid hr
  clear h1 hr hQ
  go_enter Tryz.func16, Tryz.ntmps16
  go_wp2_with fail
  refine H1.out.mono ?_
  rintro e w1 ⟨rfl, hw1⟩
  rw [← hQi] at hw1
  have hk1 : Keeps w w1 := by rw [← hw1]; exact (Keeps.refl w).alloc _
  have hd1 : DV w1 (At w.heap.size) w.heap.size (Dv.fresh Q) := by rw [← hw1]; exact fresh_dv w Q
  have hs1 : w.heap.size + 1 ≤ w1.heap.size := by rw [← hw1]; simp
  have h2 := refNew_yes Q w1 (by omega)
  rw [hQi] at h2
  have H2 := Lib.hid h2
  have HD1 := Lib.hid hd1
  have HK1 := Lib.hid hk1
  clear h2 hd1 hk1 hw1 H1
  go_wp2_with fail
  refine H2.out.mono ?_
  rintro e w2 ⟨rfl, hr2, hk2⟩
  have hs2 := hk2.size
  have hk12 := HK1.out.trans hk2
  have h3 := devTail_calls w.heap.size (At w.heap.size) (Dv.fresh Q) A c l w2 (HD1.out.below hk2.below) hQo (by omega) (HR.out.below hk12.below)
  rw [hQl] at h3
  have H3 := Lib.hid h3
  have HR2 := Lib.hid hr2.here
  have HK2 := Lib.hid hk12
  clear h3 hr2 hk2 hk12 H2 HK1 HD1
  go_wp2_with fail
  refine H3.out.mono ?_
  rintro e w3 ⟨rfl, hd3, ht3⟩
  have hs3 := ht3.size
  have hr3 := HR2.out.keep ht3 fun k _ hk e => by rw [At] at e; have := hk.1; omega
  have hread3 : Reads w3 A l := ht3.reads (HR.out.below HK2.out.below) fun a e hn h => by have := reads_lt HR.out a e hn; rw [At] at h; omega
  have h4 := refTail_calls w1.heap.size _ (Dv.fresh Q) A c l w3 hr3 hQo (by omega) hread3 (fun a e hn h => by have := reads_lt HR.out a e hn; have := h.1; omega)
  rw [hQl] at h4
  have H4 := Lib.hid h4
  have HD3 := Lib.hid hd3
  have HT3 := Lib.hid ht3
  clear h4 hd3 ht3 hr3 hread3 H3 HR2
  go_wp2_with fail
  refine H4.out.mono ?_
  rintro e w4 ⟨rfl, hr4, ht4⟩
  have HR4 := Lib.hid hr4
  have HT4 := Lib.hid ht4
  have hs4 := ht4.size
  clear hr4 ht4 H4
  have hpost : ∃ gd gr S1 S2, (Ending.returned (.tuple #[.pointer (some ⟨w.heap.size, 0, none⟩), .pointer (some ⟨w1.heap.size, 0, none⟩)]) = .returned (.tuple #[.pointer (some ⟨gd, 0, none⟩), .pointer (some ⟨gr, 0, none⟩)])) ∧ Pair w4 S1 S2 gd gr (laidD l) ∧ (∀ k, S1 k → ¬ S2 k) ∧ (∀ k, S1 k ∨ S2 k → w.heap.size ≤ k ∧ k < w4.heap.size) ∧ Keeps w w4 := by
    refine ⟨w.heap.size, w1.heap.size, fun k => More (At w.heap.size) w2 k ∧ k < w3.heap.size, fun k => More (fun k => w1.heap.size ≤ k ∧ k < w2.heap.size) w3 k ∧ k < w4.heap.size, rfl, ⟨?_, HR4.out.here⟩, ?_, ?_, ?_⟩
    · exact HD3.out.here.keep HT4.out fun k hk h h2 => by
        rcases h.1 with h3 | h3
        · rw [At] at h3; have := h2.1; omega
        · have := h2.2; omega
    · rintro k ⟨h3 | h3, h4⟩ ⟨h5 | h5, h6⟩
      · rw [At] at h3; omega
      · rw [At] at h3; omega
      · omega
      · omega
    · rintro k (⟨h3 | h3, h4⟩ | ⟨h5 | h5, h6⟩)
      · rw [At] at h3; omega
      · omega
      · omega
      · omega
    · exact Touch.nothing (F := fun k => w.heap.size ≤ k) ((Touch.of_below HK2.out.below fun k hk h => h).then ((HT3.out.mono fun k _ e => by rw [At] at e; omega).then (HT4.out.mono fun k _ e => by omega))) fun k hk h => by omega
  have HPOST := Lib.hid hpost
  clear hpost HR4 HT4 HD3 HT3 HK2 HR
  go_wp2
  go_ret2
  exact HPOST.out
end Go.Proofs.YtihodcnnappkbaaGreatDoor
namespace Go.Proofs.YtihodcnnappkbaaGreatDoor
open Go.RowKit
set_option linter.unusedVariables false
set_option linter.unusedSimpArgs false
set_option maxRecDepth 10000 in
theorem largeOne_calls (n : Int) (w : World) : Calls Tryz.prog 81 #[.int .i64 n] w fun e w' => e = .returned (.bool (outOf 1099511627776 n)) ∧ Keeps w w' := by
  by_cases hn : n < 0
  · have e : outOf 1099511627776 n = true := by simp [outOf, hn]
    rw [e]
    go_enter Tryz.func81, Tryz.ntmps81
    go_wp2
    go_ret
    exact ⟨rfl, Keeps.refl w⟩
  · have e : outOf 1099511627776 n = decide (1099511627776 ≤ n) := by simp [outOf, hn]
    rw [e]
    go_enter Tryz.func81, Tryz.ntmps81
    go_wp2
    go_ret
    exact ⟨rfl, Keeps.refl w⟩
set_option maxRecDepth 20000 in
set_option maxHeartbeats 1000000 in
theorem largeAt_calls (A : Option Addr) (c : Nat) (l : List Int) (w : World) (hl : l.length ≤ 1000000) (hr : RowAt w A (i64s l)) :
    Calls Tryz.prog 115 #[.slice A l.length c, .func (.func 81) #[] #[]] w fun e w' => e = .returned (.int .i64 (idxOf l 1099511627776 0)) ∧ Keeps w w' := by
  have hcf : ∀ (args : Array Value) (w : World), (callFunc 81 args).run Tryz.prog w = .ok (.enter 81 args) w := run_callFunc_body Tryz.func81 (by kernel_rfl) (by kernel_rfl)
  generalize hN : l.length = N at hl ⊢
  generalize hR : idxOf l 1099511627776 0 = R
  have HN := Lib.hid hN
  have HR := Lib.hid hR.symm
  have HA := Lib.hid hr
  clear hr hN hR
  go_enter Tryz.func115, Tryz.ntmps115
  go_wp2
  go_loopw [8] (fun i wr => ∃ k : Nat, k ≤ N ∧ i = .int .i64 (k : Int) ∧ R = idxOf (l.drop k) 1099511627776 k ∧ Keeps w wr) (fun i _ => N - (intOf i).toNat)
  case atStart => exact ⟨0, by omega, rfl, HR.out, (Keeps.refl w)⟩
  case round =>
    obtain ⟨k, hk, rfl, hres, hkw⟩ := hrel
    by_cases hlt : k < N
    · have hlt1 : k < l.length := by rw [HN.out]; exact hlt
      obtain ⟨ad, rfl, hcell⟩ := row_i64 (HA.out.below hkw.below) k hlt1
      have hcall := largeOne_calls (l[k]'hlt1) wr
      rw [List.drop_eq_getElem_cons hlt1, idxOf] at hres
      have HC := Lib.hid hcall
      have HRES := Lib.hid hres
      have HKW := Lib.hid hkw
      clear hcall hres hkw
      go_wp2_with fail
      refine HC.out.mono ?_
      rintro e w2 ⟨rfl, hk2⟩
      cases hb : outOf 1099511627776 (l[k]'hlt1) with
      | true =>
        have hres := HRES.out
        rw [hb, if_pos rfl] at hres
        have HRR := Lib.hid hres
        clear hres
        have HK2 := Lib.hid (HKW.out.trans hk2)
        clear hk2
        go_wp2
        go_ret
        exact ⟨by rw [HRR.out]; rfl, HK2.out⟩
      | false =>
        have hres := HRES.out
        rw [hb] at hres
        simp only [Bool.false_eq_true, if_false] at hres
        have HRR := Lib.hid hres
        clear hres
        have HK2 := Lib.hid (HKW.out.trans hk2)
        clear hk2
        go_wp2
        first
          | exact ⟨⟨k + 1, by omega, by go_num, HRR.out, HK2.out⟩, by simp [intOf]; omega⟩
          | (go_roundw
             case rel => exact ⟨k + 1, by omega, by go_num, HRR.out, HK2.out⟩
             case measure => simp [intOf]; omega)
    · have e : l.drop k = [] := List.drop_eq_nil_of_le (by rw [HN.out]; omega)
      rw [e, idxOf] at hres
      have HRES := Lib.hid hres
      clear hres e
      go_wp2
      go_ret
      exact ⟨by rw [HRES.out]; rfl, hkw⟩
set_option maxRecDepth 20000 in
theorem large_calls (A : Option Addr) (c : Nat) (l : List Int) (w : World) (hl : l.length ≤ 1000000) (hr : RowAt w A (i64s l)) :
    Calls Tryz.prog 41 #[.slice A l.length c] w fun e w' => e = .returned (.bool (!l.any (outOf 1099511627776))) ∧ Keeps w w' := by
  have hc := largeAt_calls A c l w hl hr
  have hge := idxOf_ge l 1099511627776 0
  have hc2 : Calls Tryz.prog 80 #[.slice A l.length c, .func (.func 81) #[] #[]] w fun e w' => e = .returned (.bool (l.any (outOf 1099511627776))) ∧ Keeps w w' := by
    have HC := Lib.hid hc
    have HG := Lib.hid hge
    clear hc hge hr
    generalize l.length = N at HC ⊢
    generalize idxOf l 1099511627776 0 = R at HC HG
    generalize l.any (outOf 1099511627776) = T at HG ⊢
    go_enter Tryz.func80, Tryz.ntmps80
    go_wp2_with fail
    refine HC.out.mono ?_
    rintro e w1 ⟨rfl, hk1⟩
    go_wp2
    go_ret
    exact ⟨by rw [← HG.out]; rfl, hk1⟩
  have HC := Lib.hid hc2
  clear hc hc2 hge hr
  generalize l.length = N at HC ⊢
  generalize l.any (outOf 1099511627776) = T at HC ⊢
  go_enter Tryz.func41, Tryz.ntmps41
  go_wp2_with fail
  refine HC.out.mono ?_
  rintro e w1 ⟨rfl, hk1⟩
  go_wp2
  go_ret
  exact ⟨rfl, hk1⟩
end Go.Proofs.YtihodcnnappkbaaGreatDoor
