/-
  The walk of the reference's At. Condition: the file stands for its plain machine. The walk of the law ScanAt. Condition: the bytes and the places read; the tables are as laid.
-/
import Derived.Test.YtihodcnnappkbaaGreatDoorG14
import Derived.Test.YtihodcnnappkbaaGreatDoorG13
import Derived.Test.YtihodcnnappkbaaGreatDoorG25
import Derived.Test.YtihodcnnappkbaaGreatDoorG20
import Derived.Test.YtihodcnnappkbaaGreatDoorG19
import Derived.Test.YtihodcnnappkbaaGreatDoorG11
import Derived.Test.YtihodcnnappkbaaGreatDoorG12
namespace Go.Proofs.YtihodcnnappkbaaGreatDoor
open Go.RowKit Go.BigFrame
set_option linter.unusedVariables false
set_option linter.unusedSimpArgs false
attribute [local go_sem] run_storeF
set_option maxRecDepth 40000 in
set_option maxHeartbeats 4000000 in
theorem refAt_calls (g : Nat) (S : Nat → Prop) (d : Dv) (a : Int) (w : World) (hd0 : RV w S g d) (hok : d.Ok) (hct : d.counted ≤ 9223372036852678655) :
    Calls Tryz.prog 19 #[.pointer (some ⟨g, 0, none⟩), .int .i64 a] w fun e w' => FetchPost w (fetch d a) e w' ∧ RV w' S g (fetchD d a) ∧ Touch S w w' := by
  suffices hs : Calls Tryz.prog 19 #[.pointer (some ⟨g, 0, none⟩), .int .i64 a] w fun e w' => FetchPost w (fetch d a) e w' ∧ RV w' (fun k => S k ∧ k < w.heap.size) g (fetchD d a) ∧ Touch (fun k => S k ∧ k < w.heap.size) w w' from
    hs.mono fun e w' ⟨h1, h2, h3⟩ => ⟨h1, h2.mono fun _ _ h => h.1, h3.mono fun _ _ h => h.1⟩
  have hd := hd0.here
  clear hd0
  obtain ⟨T, hT0⟩ : ∃ T : Nat → Prop, T = fun k => S k ∧ k < w.heap.size := ⟨_, rfl⟩
  obtain ⟨W, hW⟩ : ∃ W, W = w.alloc (.cells zero11 36) := ⟨_, rfl⟩
  have hk0 : Keeps w W := by rw [hW]; exact (Keeps.refl w).alloc _
  have hres : W.heap[w.heap.size]? = some (.cells zero11 36) := by rw [hW]; exact obj_new w _
  have hdW := hd.below hk0.below
  have htW : Touch (fun k => S k ∧ k < w.heap.size) w W := (Touch.refl _ w).below hk0.below
  have hsz := hok.size
  have hlen := refLen_calls g _ d W hdW
  have hup := refUp_calls g _ d W hdW
  have HDW := Lib.hid hdW
  have HTW := Lib.hid htW
  have HRES := Lib.hid hres
  have HLEN := Lib.hid hlen
  have HUP := Lib.hid hup
  obtain ⟨R, hR⟩ : ∃ R, R = fetch d a := ⟨_, rfl⟩
  obtain ⟨D, hD⟩ : ∃ D, D = fetchD d a := ⟨_, rfl⟩
  rw [← hR, ← hD]
  unfold fetch at hR
  clear hdW htW hres hlen hup hd
  cases hdown : d.down with
  | true =>
    rw [hdown] at hR
    have HE : Hid (R = .error 50) := Lib.hid (by rw [hR]; rfl)
    have HD : Hid (D = d) := Lib.hid (by rw [hD, fetchD_same (.inl hdown)])
    rw [hdown] at HUP
    clear hR hD hk0 hdown
    generalize d.b.length = L at *
    go_enter Tryz.func19, Tryz.ntmps19
    go_wp2_with fail
    rw [← hW]
    clear hW
    refine HUP.out.mono ?_
    rintro e w1 ⟨rfl, rfl⟩
    obtain ⟨⟨d0, d1, d2, d3, d4, d5, d6, d7, d8, d9, d10⟩, y0, y1, y2, y3, y4, y5, y6, y7, y8, y9, y10⟩ := cells11 (x0 := .int .i64 0) (x1 := .int .i64 0) (x2 := .slice none 0 0) (x3 := .int .i64 0) (x4 := .int .i64 0) (x5 := .int .i64 0) (x6 := .slice none 0 0) (x7 := .int .i64 0) (x8 := .int .i64 0) (x9 := .int .i64 0) (x10 := .slice none 0 0) HRES.out
    have u1 := obj_lt HRES.out
    go_wp2
    refine bodyPost_ret (v := .tuple #[.agg zero11, .int .i64 0, .int .i64 50]) (by simp [results, Tryz.results19, go_sem, u1, d0, d1, d2, d3, d4, d5, d6, d7, d8, d9, d10]) rfl ?_
    rw [HE.out, HD.out]
    have hT := fun v0 v1 v2 v3 v4 v5 v6 v7 v8 v9 v10 => touch11 (w1 := W) (g := w.heap.size) v0 v1 v2 v3 v4 v5 v6 v7 v8 v9 v10
    exact ⟨rfl, HDW.out.keep (hT _ _ _ _ _ _ _ _ _ _ _) fun k _ hk e => by rw [At] at e; have := hk.2; omega, touch_new HTW.out (hT _ _ _ _ _ _ _ _ _ _ _) (Nat.le_refl _)⟩
  | false =>
    rw [hdown] at hR
    simp only [Bool.false_eq_true, if_false] at hR
    by_cases hout : a < 0 ∨ (d.b.length : Int) < a
    case pos =>
      rw [if_pos hout] at hR
      have HE : Hid (R = .error 7) := Lib.hid hR
      have HD : Hid (D = d) := Lib.hid (by rw [hD, fetchD_same (by omega)])
      rw [hdown] at HUP
      clear hR hD hk0 hdown
      generalize d.b.length = L at *
      by_cases h0 : a < 0
      all_goals
        go_enter Tryz.func19, Tryz.ntmps19
        go_wp2_with fail
        rw [← hW]
        clear hW
        refine HUP.out.mono ?_
        rintro e w1 ⟨rfl, rfl⟩
        go_wp2_with fail
        refine HLEN.out.mono ?_
        rintro e w1 ⟨rfl, rfl⟩
        have hL : a < 0 ∨ (L : Int) < a := hout
        try have hL2 : (L : Int) < a := by omega
        obtain ⟨⟨d0, d1, d2, d3, d4, d5, d6, d7, d8, d9, d10⟩, y0, y1, y2, y3, y4, y5, y6, y7, y8, y9, y10⟩ := cells11 (x0 := .int .i64 0) (x1 := .int .i64 0) (x2 := .slice none 0 0) (x3 := .int .i64 0) (x4 := .int .i64 0) (x5 := .int .i64 0) (x6 := .slice none 0 0) (x7 := .int .i64 0) (x8 := .int .i64 0) (x9 := .int .i64 0) (x10 := .slice none 0 0) HRES.out
        have u1 := obj_lt HRES.out
        go_wp2
        refine bodyPost_ret (v := .tuple #[.agg zero11, .int .i64 0, .int .i64 7]) (by simp [results, Tryz.results19, go_sem, u1, d0, d1, d2, d3, d4, d5, d6, d7, d8, d9, d10]) rfl ?_
        rw [HE.out, HD.out]
        have hT := fun v0 v1 v2 v3 v4 v5 v6 v7 v8 v9 v10 => touch11 (w1 := W) (g := w.heap.size) v0 v1 v2 v3 v4 v5 v6 v7 v8 v9 v10
        exact ⟨rfl, HDW.out.keep (hT _ _ _ _ _ _ _ _ _ _ _) fun k _ hk e => by rw [At] at e; have := hk.2; omega, touch_new HTW.out (hT _ _ _ _ _ _ _ _ _ _ _) (Nat.le_refl _)⟩
    case neg =>
    rw [if_neg hout] at hR
    by_cases hend : a = (d.b.length : Int)
    case pos =>
      rw [if_pos hend] at hR
      have HE : Hid (R = .error 140) := Lib.hid hR
      have HD : Hid (D = d) := Lib.hid (by rw [hD, fetchD_same (by omega)])
      rw [hdown] at HUP
      clear hR hD hk0 hdown
      generalize d.b.length = L at *
      subst hend
      go_enter Tryz.func19, Tryz.ntmps19
      go_wp2_with fail
      rw [← hW]
      clear hW
      refine HUP.out.mono ?_
      rintro e w1 ⟨rfl, rfl⟩
      go_wp2_with fail
      refine HLEN.out.mono ?_
      rintro e w1 ⟨rfl, rfl⟩
      obtain ⟨⟨d0, d1, d2, d3, d4, d5, d6, d7, d8, d9, d10⟩, y0, y1, y2, y3, y4, y5, y6, y7, y8, y9, y10⟩ := cells11 (x0 := .int .i64 0) (x1 := .int .i64 0) (x2 := .slice none 0 0) (x3 := .int .i64 0) (x4 := .int .i64 0) (x5 := .int .i64 0) (x6 := .slice none 0 0) (x7 := .int .i64 0) (x8 := .int .i64 0) (x9 := .int .i64 0) (x10 := .slice none 0 0) HRES.out
      have u1 := obj_lt HRES.out
      go_wp2
      refine bodyPost_ret (v := .tuple #[.agg zero11, .int .i64 0, .int .i64 140]) (by simp [results, Tryz.results19, go_sem, u1, d0, d1, d2, d3, d4, d5, d6, d7, d8, d9, d10]) rfl ?_
      rw [HE.out, HD.out]
      have hT := fun v0 v1 v2 v3 v4 v5 v6 v7 v8 v9 v10 => touch11 (w1 := W) (g := w.heap.size) v0 v1 v2 v3 v4 v5 v6 v7 v8 v9 v10
      exact ⟨rfl, HDW.out.keep (hT _ _ _ _ _ _ _ _ _ _ _) fun k _ hk e => by rw [At] at e; have := hk.2; omega, touch_new HTW.out (hT _ _ _ _ _ _ _ _ _ _ _) (Nat.le_refl _)⟩
    case neg =>
    rw [if_neg hend] at hR
    obtain ⟨n, rfl⟩ := Int.eq_ofNat_of_zero_le (show 0 ≤ a by omega)
    have hnl : n < d.b.length := by omega
    have hrd : d.read (n : Int) 2202 = ({ d with counted := d.counted + ((d.b.drop n).take 2202).length }, (d.b.drop n).take 2202, 0) := by
      unfold Dv.read
      rw [if_neg (by omega)]
      rfl
    have hD2 : D = (d.read (n : Int) 2202).1 := by rw [hD, fetchD_read hdown (by omega) (by omega)]
    have hread := refRead_calls g _ d (n : Int) 2202 W HDW.out hok hct (by omega)
    rw [← hD2, hrd] at hread
    simp only [Int.toNat_natCast] at hR
    obtain ⟨b, hb⟩ : ∃ b, b = (d.b.drop n).take 2202 := ⟨_, rfl⟩
    have hbl : b.length = min 2202 (d.b.length - n) := by rw [hb, List.length_take, List.length_drop]
    rw [← hb] at hR hread
    simp only at hread
    obtain ⟨x, t, rfl⟩ : ∃ x t, b = x :: t := by
      cases hq : b with
      | nil => rw [hq] at hbl; simp at hbl; omega
      | cons x t => exact ⟨x, t, rfl⟩
    have htl : t.length ≤ 2201 := by rw [List.length_cons] at hbl; omega
    rw [fetchB] at hR
    have HREAD := Lib.hid hread
    have HR := Lib.hid hR
    rw [hdown] at HUP
    have q1 : ¬ (n : Int) < 0 := by omega
    have q2 : ¬ (d.b.length : Int) < (n : Int) := by omega
    clear hread hR hD hD2 hrd hb hbl hdown hk0 hout hok
    generalize d.b.length = L at *
    have q3 : ¬ (n : Int) = (L : Int) := hend
    go_enter Tryz.func19, Tryz.ntmps19
    go_wp2_with fail
    rw [← hW]
    clear hW
    refine HUP.out.mono ?_
    rintro e w1 ⟨rfl, rfl⟩
    go_wp2_with fail
    refine HLEN.out.mono ?_
    rintro e w1 ⟨rfl, rfl⟩
    go_wp2_with fail
    refine HREAD.out.mono ?_
    rintro e w2 ⟨v2, rfl, ho2, hd2, ht2⟩
    obtain ⟨B, cb, rfl, hlc, hrb, hcm, _⟩ := ho2.form
    have hr2 : w2.heap[w.heap.size]? = some (.cells zero11 36) := ht2.obj HRES.out (fun h => by have := h.2; omega)
    have ht02 : Touch (fun k => S k ∧ k < w.heap.size) w w2 := HTW.out.then ht2
    obtain ⟨ad, rfl, hcell⟩ := hrb.out 0 (by simp)
    rw [List.getElem_cons_zero, addr_add_zero] at hcell
    have HR2 := Lib.hid hr2
    have HT2 := Lib.hid ht02
    have HDV2 := Lib.hid hd2
    have HRB := Lib.hid hrb
    clear hr2 ht02 hd2 ht2 ho2 hrb HREAD HLEN HUP HRES HTW HDW
    rw [List.length_cons] at hlc ⊢
    obtain ⟨M, hM⟩ : ∃ M, M = t.length + 1 := ⟨_, rfl⟩
    rw [← hM] at hlc ⊢
    have hM1 : t.length = M - 1 := by omega
    have hMp : 0 < M := by omega
    have hML : M ≤ 2202 := by omega
    have HM1 := Lib.hid hM1
    clear hM hM1 htl
    obtain ⟨⟨d0, d1, d2, d3, d4, d5, d6, d7, d8, d9, d10⟩, y0, y1, y2, y3, y4, y5, y6, y7, y8, y9, y10⟩ := cells11 (x0 := .int .i64 0) (x1 := .int .i64 0) (x2 := .slice none 0 0) (x3 := .int .i64 0) (x4 := .int .i64 0) (x5 := .int .i64 0) (x6 := .slice none 0 0) (x7 := .int .i64 0) (x8 := .int .i64 0) (x9 := .int .i64 0) (x10 := .slice none 0 0) HR2.out
    have u1 := obj_lt HR2.out
    have hx256 : x.toNat < 256 := x.toNat_lt
    by_cases hx : x = 0
    case neg =>
      have HE : Hid (R = .error 141) := Lib.hid (by rw [HR.out, if_pos hx])
      have qx : (((x.toNat : Nat) : Int) != 0) = true := by rw [bne_iff_ne]; intro e; exact hx (UInt8.toNat_inj.1 (by show x.toNat = 0; omega))
      clear hx HR
      go_wp2
      refine bodyPost_ret (v := .tuple #[.agg zero11, .int .i64 0, .int .i64 141]) (by simp [results, Tryz.results19, go_sem, u1, d0, d1, d2, d3, d4, d5, d6, d7, d8, d9, d10]) rfl ?_
      rw [HE.out]
      have hT := fun v0 v1 v2 v3 v4 v5 v6 v7 v8 v9 v10 => touch11 (w1 := w2) (g := w.heap.size) v0 v1 v2 v3 v4 v5 v6 v7 v8 v9 v10
      exact ⟨rfl, HDV2.out.keep (hT _ _ _ _ _ _ _ _ _ _ _) fun k _ hk e => by rw [At] at e; have := hk.2; omega, touch_new HT2.out (hT _ _ _ _ _ _ _ _ _ _ _) (Nat.le_refl _)⟩
    case pos =>
    subst hx
    have HR2' : Hid (R = fetchT t n) := Lib.hid (by rw [HR.out, if_neg (by simp)])
    clear HR
    have hcell : w2.cell? ad = some (.int .u8 0) := hcell
    go_wp2_with fail
    go_loopw [11] (fun i wr => ∃ k : Nat, k + 1 ≤ M ∧ i = .int .i64 ((k + 1 : Nat) : Int) ∧ k ≤ (nz t).length ∧ wr = w2) (fun i _ => M - (intOf i).toNat)
    case atStart => exact ⟨0, by omega, rfl, by omega, rfl⟩
    case round =>
    obtain ⟨k, hkM, rfl, hkn, rfl⟩ := hrel
    obtain ⟨m, hm⟩ : ∃ m, m = k + 1 := ⟨_, rfl⟩
    rw [← hm] at hkM ⊢
    have hnle := nz_le t
    by_cases hlt : m < M
    case neg =>
      have hM0 := HM1.out
      have hk : ¬ (nz t).length < t.length := by omega
      by_cases hlong : t.length = 2201
      case pos =>
        have HE : Hid (R = .error 2) := Lib.hid (by rw [HR2'.out, fetchT, if_neg hk, if_pos hlong])
        have hM2 : M = 2202 := by omega
        have hm2 : m = 2202 := by omega
        clear hk hnle hlong HR2' hM0 hm hkn
        subst hM2 hm2
        go_wp2
        refine bodyPost_ret (v := .tuple #[.agg zero11, .int .i64 0, .int .i64 2]) (by simp [results, Tryz.results19, go_sem, u1, d0, d1, d2, d3, d4, d5, d6, d7, d8, d9, d10]) rfl ?_
        rw [HE.out]
        have hT := fun v0 v1 v2 v3 v4 v5 v6 v7 v8 v9 v10 => touch11 (w1 := wr) (g := w.heap.size) v0 v1 v2 v3 v4 v5 v6 v7 v8 v9 v10
        exact ⟨rfl, HDV2.out.keep (hT _ _ _ _ _ _ _ _ _ _ _) fun k _ hk e => by rw [At] at e; have := hk.2; omega, touch_new HT2.out (hT _ _ _ _ _ _ _ _ _ _ _) (Nat.le_refl _)⟩
      case neg =>
        have HE : Hid (R = .error 142) := Lib.hid (by rw [HR2'.out, fetchT, if_neg hk, if_neg hlong])
        have hM2 : ¬ M = 2202 := by omega
        have hM3 : ¬ (M : Int) = 2202 := by omega
        have hmM : m = M := by omega
        clear hk hnle hlong HR2' hM0 hm hkn
        subst hmM
        go_wp2
        refine bodyPost_ret (v := .tuple #[.agg zero11, .int .i64 0, .int .i64 142]) (by simp [results, Tryz.results19, go_sem, u1, d0, d1, d2, d3, d4, d5, d6, d7, d8, d9, d10]) rfl ?_
        rw [HE.out]
        have hT := fun v0 v1 v2 v3 v4 v5 v6 v7 v8 v9 v10 => touch11 (w1 := wr) (g := w.heap.size) v0 v1 v2 v3 v4 v5 v6 v7 v8 v9 v10
        exact ⟨rfl, HDV2.out.keep (hT _ _ _ _ _ _ _ _ _ _ _) fun k _ hk e => by rw [At] at e; have := hk.2; omega, touch_new HT2.out (hT _ _ _ _ _ _ _ _ _ _ _) (Nat.le_refl _)⟩
    case pos =>
    have hM0 := HM1.out
    have hkt : k < t.length := by omega
    obtain ⟨ad', e', hcm'⟩ := HRB.out.out m (by rw [List.length_cons]; omega)
    cases e'
    have hgm : ((0 : UInt8) :: t)[m]'(by rw [List.length_cons]; omega) = t[k]'hkt := by subst hm; rfl
    rw [hgm] at hcm'
    obtain ⟨y, hy⟩ : ∃ y, y = t[k]'hkt := ⟨_, rfl⟩
    rw [← hy] at hcm'
    have hnz := nz_at hkt hkn
    rw [← hy] at hnz
    have hy256 : y.toNat < 256 := y.toNat_lt
    by_cases hy0 : y = 0
    case neg =>
      have qy : (((y.toNat : Nat) : Int) != 0) = true := by rw [bne_iff_ne]; intro e; exact hy0 (UInt8.toNat_inj.1 (by show y.toNat = 0; omega))
      have hkn2 : k + 1 ≤ (nz t).length := by
        by_cases e : (nz t).length = k
        · exact absurd (hnz.2 e) hy0
        · omega
      have HKN := Lib.hid hkn2
      have HM := Lib.hid hm
      clear hy0 hnz hkn2 hgm hy hnle hM0 hm hkn
      go_wp2
      exact ⟨⟨k + 1, by have := HM.out; omega, by rw [← HM.out]; go_num, HKN.out, trivial⟩, by simp [intOf]; omega⟩
    case pos =>
    have hnk : (nz t).length = k := hnz.1 hy0
    have hk : (nz t).length < t.length := by omega
    subst hy0
    have hcm' : wr.cell? (ad.add m) = some (.int .u8 0) := hcm'
    by_cases hk0 : k = 0
    case pos =>
      have HE : Hid (R = .error 4) := Lib.hid (by rw [HR2'.out, fetchT, if_pos hk, if_pos (by omega)])
      have hm1 : m = 1 := by omega
      clear hk hnle HR2' hnz hgm hy hnk hM0 hm hkn hkM
      subst hm1
      rw [addr_add_pos ad 1 (by omega)] at hcm'
      go_wp2
      refine bodyPost_ret (v := .tuple #[.agg zero11, .int .i64 0, .int .i64 4]) (by simp [results, Tryz.results19, go_sem, u1, d0, d1, d2, d3, d4, d5, d6, d7, d8, d9, d10]) rfl ?_
      rw [HE.out]
      have hT := fun v0 v1 v2 v3 v4 v5 v6 v7 v8 v9 v10 => touch11 (w1 := wr) (g := w.heap.size) v0 v1 v2 v3 v4 v5 v6 v7 v8 v9 v10
      exact ⟨rfl, HDV2.out.keep (hT _ _ _ _ _ _ _ _ _ _ _) fun k _ hk e => by rw [At] at e; have := hk.2; omega, touch_new HT2.out (hT _ _ _ _ _ _ _ _ _ _ _) (Nat.le_refl _)⟩
    case neg =>
    have HR3 : Hid (R = fetchF (decF (nz t)) ((n : Int) + (k : Int) + 2)) := Lib.hid (by rw [HR2'.out, fetchT, if_pos hk, if_neg (by omega), hnk])
    obtain ⟨Z, hif⟩ : ∃ Z, (if cb = 1 then some ad else some ⟨ad.block, ad.off + 1, none⟩) = Z := ⟨_, rfl⟩
    have hz : Reads wr Z t := by
      have h := HRB.out.drop_any 1 Z fun hlt ad' e => by
        rw [← hif, if_neg (by omega)]
        cases e
        rw [addr_add_pos ad 1 (by omega)]
      simpa using h
    have hnk1 : (nz t).length = m - 1 := by omega
    have hdec := refDecode_calls Z (cb - 1) (nz t) wr (by rw [← nz_take t]; exact hz.take _) (by omega)
    rw [hnk1] at hdec
    have hw2 : IntKind.i64.wrap ((n : Int) + (m : Int)) = (n : Int) + (m : Int) := IntWalk.i64_in _ (by omega)
    have hw3 : IntKind.i64.wrap ((n : Int) + (m : Int) + 1) = (n : Int) + (m : Int) + 1 := IntWalk.i64_in _ (by omega)
    have hm1 : 1 ≤ m := by omega
    have hmM : m ≤ M := by omega
    have hmc : m ≤ cb := by omega
    have hmn : ¬ (m : Int) = 1 := by omega
    have hnm : (n : Int) + (k : Int) + 2 = (n : Int) + (m : Int) + 1 := by omega
    rw [hnm] at HR3
    have HDEC := Lib.hid hdec
    have hcb1 : ¬ cb = 1 := by omega
    obtain rfl : Z = some ⟨ad.block, ad.off + 1, none⟩ := by rw [← hif, if_neg hcb1]
    clear hk hnle HR2' hnz hgm hy hnk hnk1 hdec hz hM0 hm hkn hnm hk0 hif
    go_wp2_with fail
    refine HDEC.out.mono ?_
    intro e w3 hpost
    clear HDEC hcell hcm' d0 d1 d2 d3 d4 d5 d6 d7 d8 d9 d10 y0 y1 y2 y3 y4 y5 y6 y7 y8 y9 y10 u1
    cases hde : decF (nz t) with
    | error er =>
      rw [hde] at hpost
      obtain ⟨rfl, hk3⟩ : e = .returned (.tuple #[.agg zero11, .int .i64 er]) ∧ Keeps wr w3 := hpost
      have HE : Hid (R = .error er) := Lib.hid (by rw [HR3.out, hde]; rfl)
      have qe : (er != 0) = true := by simpa using decF_nz hde
      have HR4 := Lib.hid ((hk3.below.block _ (obj_lt HR2.out)).trans HR2.out)
      have HT4 := Lib.hid (HT2.out.below hk3.below)
      have HDV4 := Lib.hid (HDV2.out.below hk3.below)
      clear hk3 hde HR3
      obtain ⟨⟨d0, d1, d2, d3, d4, d5, d6, d7, d8, d9, d10⟩, y0, y1, y2, y3, y4, y5, y6, y7, y8, y9, y10⟩ := cells11 (x0 := .int .i64 0) (x1 := .int .i64 0) (x2 := .slice none 0 0) (x3 := .int .i64 0) (x4 := .int .i64 0) (x5 := .int .i64 0) (x6 := .slice none 0 0) (x7 := .int .i64 0) (x8 := .int .i64 0) (x9 := .int .i64 0) (x10 := .slice none 0 0) HR4.out
      have u1 := obj_lt HR4.out
      go_wp2
      refine bodyPost_ret (v := .tuple #[.agg zero11, .int .i64 0, .int .i64 er]) (by simp [results, Tryz.results19, go_sem, u1, d0, d1, d2, d3, d4, d5, d6, d7, d8, d9, d10]) rfl ?_
      rw [HE.out]
      have hT := fun v0 v1 v2 v3 v4 v5 v6 v7 v8 v9 v10 c => (touch11 (w1 := w3) (g := w.heap.size) v0 v1 v2 v3 v4 v5 v6 v7 v8 v9 v10).alloc c
      exact ⟨rfl, HDV4.out.keep (hT _ _ _ _ _ _ _ _ _ _ _ _) fun k _ hk e => by rw [At] at e; have := hk.2; omega, touch_new HT4.out (hT _ _ _ _ _ _ _ _ _ _ _ _) (Nat.le_refl _)⟩
    | ok f =>
      rw [hde] at hpost
      obtain ⟨A3, c3, B3, d3', E3, k3, rfl, hf3, hk3⟩ : ∃ A3 c3 B3 d3' E3 k3, _ ∧ _ ∧ _ := hpost
      have HE : Hid (R = .ok (f, (n : Int) + (m : Int) + 1)) := Lib.hid (by rw [HR3.out, hde]; rfl)
      have HR4 := Lib.hid ((hk3.below.block _ (obj_lt HR2.out)).trans HR2.out)
      have HT4 := Lib.hid (HT2.out.below hk3.below)
      have HDV4 := Lib.hid (HDV2.out.below hk3.below)
      have HF := Lib.hid hf3
      have HU := Lib.hid (obj_lt HR2.out)
      obtain ⟨n1, hn1'⟩ : ∃ n1, n1 = f.cols.length := ⟨_, rfl⟩
      obtain ⟨n2, hn2⟩ : ∃ n2, n2 = f.block.length := ⟨_, rfl⟩
      obtain ⟨n3, hn3⟩ : ∃ n3, n3 = f.ents.length := ⟨_, rfl⟩
      have hfc : frCells A3 c3 B3 d3' E3 k3 f = #[.int .i64 f.kind, .int .i64 f.number, .slice A3 n1 c3, .int .i64 f.seq, .int .i64 f.first, .int .i64 f.rows, .slice B3 n2 d3', .int .i64 f.spot, .int .i64 f.frames, .int .i64 f.irows, .slice E3 n3 k3] := by rw [hn1', hn2, hn3]; rfl
      rw [hfc]
      have HFC := Lib.hid hfc
      clear hfc hn1' hn2 hn3 hk3 hf3 hde HR3
      obtain ⟨⟨d0, d1, d2, d3, d4, d5, d6, d7, d8, d9, d10⟩, y0, y1, y2, y3, y4, y5, y6, y7, y8, y9, y10⟩ := cells11 (x0 := .int .i64 0) (x1 := .int .i64 0) (x2 := .slice none 0 0) (x3 := .int .i64 0) (x4 := .int .i64 0) (x5 := .int .i64 0) (x6 := .slice none 0 0) (x7 := .int .i64 0) (x8 := .int .i64 0) (x9 := .int .i64 0) (x10 := .slice none 0 0) HR4.out
      have u1 := obj_lt HR4.out
      go_wp2
      refine bodyPost_ret (v := .tuple #[.agg #[.int .i64 f.kind, .int .i64 f.number, .slice A3 n1 c3, .int .i64 f.seq, .int .i64 f.first, .int .i64 f.rows, .slice B3 n2 d3', .int .i64 f.spot, .int .i64 f.frames, .int .i64 f.irows, .slice E3 n3 k3], .int .i64 ((n : Int) + (m : Int) + 1), .int .i64 0]) (by simp [results, Tryz.results19, go_sem, u1, d0, d1, d2, d3, d4, d5, d6, d7, d8, d9, d10]) rfl ?_
      rw [HE.out]
      have hT := fun v0 v1 v2 v3 v4 v5 v6 v7 v8 v9 v10 c => (touch11 (w1 := w3) (g := w.heap.size) v0 v1 v2 v3 v4 v5 v6 v7 v8 v9 v10).alloc c
      refine ⟨⟨A3, c3, B3, d3', E3, k3, by rw [HFC.out], (HF.out.touch (hT _ _ _ _ _ _ _ _ _ _ _ _) HU.out).lower (Nat.le_of_lt HU.out)⟩, HDV4.out.keep (hT _ _ _ _ _ _ _ _ _ _ _ _) fun k _ hk e => by rw [At] at e; have := hk.2; omega, touch_new HT4.out (hT _ _ _ _ _ _ _ _ _ _ _ _) (Nat.le_refl _)⟩
set_option maxRecDepth 40000 in
set_option maxHeartbeats 4000000 in
theorem scanAtL_calls (A0 A1 : Option Addr) (c0 c1 : Nat) (l0 : List UInt8) (l1 : List Int) (w : World) (hr0 : Reads w A0 l0) (hl0 : l0.length ≤ 9223372036854775807) (hr1 : RowAt w A1 (i64s l1)) (hl1 : l1.length ≤ 9223372036854775807) (htb : Tabs w) (ht : Table w) :
    Calls Tryz.prog 4 #[.slice A0 l0.length c0, .slice A1 l1.length c1] w fun e w' => e = .returned (.bool true) ∧ Keeps w w' := by
  have hlv := scanLive_calls w htb ht
  have HLV := Lib.hid hlv
  clear hlv
  by_cases hbig : 100000 < l0.length
  · clear htb ht hr0 hr1
    generalize l0.length = n0 at *
    generalize l1.length = n1 at *
    have hbig2 : (100000 : Int) < (n0 : Int) := by omega
    go_enter Tryz.func4, Tryz.ntmps4
    go_wp2_with fail
    refine HLV.out.mono ?_
    rintro e w1 ⟨rfl, hk1⟩
    go_wp2
    go_ret
    exact ⟨rfl, hk1⟩
  have hsm : l0.length ≤ 100000 := by omega
  have hld : ∀ w', Keeps w w' → Calls Tryz.prog 16 #[.slice A0 l0.length c0] w' fun e w'' => ∃ gd gr S1 S2, e = .returned (.tuple #[.pointer (some ⟨gd, 0, none⟩), .pointer (some ⟨gr, 0, none⟩)]) ∧ Pair w'' S1 S2 gd gr (laidD l0) ∧ (∀ k, S1 k → ¬ S2 k) ∧ (∀ k, S1 k ∨ S2 k → w'.heap.size ≤ k ∧ k < w''.heap.size) ∧ Keeps w' w'' :=
    fun w' hk => laid_calls A0 c0 l0 w' (by omega) (hr0.below hk.below)
  have HLD := Lib.hid hld
  have HR1 := Lib.hid hr1
  have HTB := Lib.hid htb
  have HTT := Lib.hid ht
  clear hr0 hld hr1 htb ht hbig
  generalize hn0 : l0.length = n0 at *
  generalize hn1 : l1.length = n1 at *
  have hsm2 : ¬ (100000 : Int) < (n0 : Int) := by omega
  by_cases hmany : 50 < n1
  · have hmany2 : (50 : Int) < (n1 : Int) := by omega
    clear HR1
    go_enter Tryz.func4, Tryz.ntmps4
    go_wp2_with fail
    refine HLV.out.mono ?_
    rintro e w1 ⟨rfl, hk1⟩
    go_wp2_with fail
    refine (HLD.out w1 hk1).mono ?_
    rintro e w2 ⟨gd, gr, S1, S2, rfl, _, _, _, hk2⟩
    go_wp2
    go_ret
    exact ⟨rfl, hk1.trans hk2⟩
  have hmany2 : ¬ (50 : Int) < (n1 : Int) := by omega
  have hok0 : (laidD l0).Ok := laidD_ok (by omega)
  have hct0 : (laidD l0).counted = 0 := rfl
  have HOK0 := Lib.hid hok0
  have HCT0 := Lib.hid hct0
  clear hok0 hct0
  go_enter Tryz.func4, Tryz.ntmps4
  go_wp2_with fail
  refine HLV.out.mono ?_
  rintro e w1 ⟨rfl, hk1⟩
  go_wp2_with fail
  refine (HLD.out w1 hk1).mono ?_
  rintro e w2 ⟨gd, gr, S1, S2, rfl, hp2, hdis, hS, hk2⟩
  have hk12 := hk1.trans hk2
  have hS1 : ∀ k, S1 k → w.heap.size ≤ k := fun k hk => by have := (hS k (.inl hk)).1; have := hk1.size; omega
  have hS2 : ∀ k, S2 k → w.heap.size ≤ k := fun k hk => by have := (hS k (.inr hk)).1; have := hk1.size; omega
  have HP2 := Lib.hid hp2
  have HDIS := Lib.hid hdis
  have HS1 := Lib.hid hS1
  have HS2 := Lib.hid hS2
  have HS := Lib.hid hS
  have HK2 := Lib.hid hk12
  have hrel0 : ∃ j : Nat, ∃ x : Dv, j ≤ n1 ∧ Value.int .i64 0 = .int .i64 (j : Int) ∧ Pair w2 S1 S2 gd gr x ∧ x.Ok ∧ x.counted ≤ j * 2202 ∧ w2.heap.size ≤ w2.heap.size ∧ Keeps w w2 := ⟨0, laidD l0, by omega, rfl, HP2.out, HOK0.out, by rw [HCT0.out]; omega, Nat.le_refl _, hk12⟩
  have HREL0 := Lib.hid hrel0
  clear hp2 hdis hS1 hS2 hS hk1 hk2 hk12 hrel0 HLV HLD
  go_wp2_with fail
  go_loopw [46] (fun i wr => ∃ j : Nat, ∃ x : Dv, j ≤ n1 ∧ i = .int .i64 (j : Int) ∧ Pair wr S1 S2 gd gr x ∧ x.Ok ∧ x.counted ≤ j * 2202 ∧ w2.heap.size ≤ wr.heap.size ∧ Keeps w wr) (fun i _ => n1 - (intOf i).toNat)
  case atStart => exact HREL0.out
  case round =>
    obtain ⟨j, x, hj, rfl, ⟨hd, hv⟩, hok, hct, hszr, hkr⟩ := hrel
    by_cases hlt : j < n1
    · have hlt2 : (j : Int) < (n1 : Int) := by omega
      obtain ⟨ad, rfl, hcell⟩ := row_i64 (HR1.out.below hkr.below) j (by omega)
      obtain ⟨a, ha⟩ : ∃ a, a = l1[j]'(by omega) := ⟨_, rfl⟩
      rw [← ha] at hcell
      have hcnt := devCounted_calls gd S1 x wr hd
      have HCNT := Lib.hid hcnt
      have hlow : ∀ w', Touch S1 wr w' → Keeps w w' := fun w' h => Touch.nothing (F := S1) ((Touch.of_below hkr.below fun k hk h => absurd hk (by omega)).then h) fun k hk h => by have := HS1.out k h; omega
      have hat := scanAt_calls gd S1 x a wr hd hok (by omega) fun w' h => ⟨HTB.out.below (hlow w' h).below, HTT.out.later (hlow w' h).below⟩
      have HAT := Lib.hid hat
      have HV := Lib.hid hv
      have HD := Lib.hid hd
      have HOK := Lib.hid hok
      have HKR := Lib.hid hkr
      have HLOW := Lib.hid hlow
      obtain ⟨hf1, hf2, hf3, hf4, hf5⟩ := fetchD_facts x a
      have HF5 := Lib.hid (hf5 hok)
      have hidx : w.heap.size ≤ wr.heap.size := hkr.size
      clear hcnt hat hv hd hok hkr hlow hf1 hf2 hf5 ha HREL0
      go_wp2_with fail
      refine HCNT.out.mono ?_
      rintro e w3 ⟨rfl, rfl⟩
      go_wp2_with fail
      refine HAT.out.mono ?_
      rintro e w4 ⟨hpost, hd4, ht4⟩
      obtain ⟨P1, m1, P2, m2, P3, m3, rfl, hfr4⟩ := hpost.form
      have hs4 := ht4.size
      have hk4 := HLOW.out w4 ht4
      have hsame := frSame_self (outF (fetch x a)).1
      obtain ⟨w5, hw5⟩ : ∃ w5, w5 = w4.alloc (.cells (frCells P1 m1 P2 m2 P3 m3 (outF (fetch x a)).1) 36) := ⟨_, rfl⟩
      have hk45 : Keeps w4 w5 := by rw [hw5]; exact (Keeps.refl w4).alloc _
      have hb5 : w5.heap[w4.heap.size]? = some (.cells (frCells P1 m1 P2 m2 P3 m3 (outF (fetch x a)).1) 36 (0, 0)) := by rw [hw5]; exact obj_new _ _
      have hv4 : RV w4 S2 gr x := HV.out.keep ht4 fun k _ h h' => HDIS.out k h' h
      have href := refAt_calls gr S2 x a w5 (hv4.below hk45.below) HOK.out (by omega)
      have HD5 := Lib.hid (hd4.below hk45.below)
      have HFR5 := Lib.hid (hfr4.later hk45.below)
      have HB5 := Lib.hid hb5
      have HK5 := Lib.hid (hk4.trans hk45)
      have HREF := Lib.hid href
      have HSAME := Lib.hid hsame
      have hs45 := hk45.size
      have hs5 := HK5.out.size
      clear hpost hd4 ht4 hfr4 hk4 hk45 hb5 hv4 href hsame HAT HCNT HV
      unfold frCells at *
      go_wp2_with fail
      rw [← hw5]
      clear hw5
      refine HREF.out.mono ?_
      rintro e w6 ⟨hpost, hv6, ht6⟩
      obtain ⟨Q1, n1', Q2, n2', Q3, n3', rfl, hfr6⟩ := hpost.form
      have hs6 := ht6.size
      have hne4 : ¬ S2 w4.heap.size := fun h => by
        have := (HS.out _ (.inr h)).2
        omega
      have hb6 := ht6.obj HB5.out hne4
      have hd6 : DV w6 S1 gd (fetchD x a) := HD5.out.keep ht6 fun k _ h h' => HDIS.out k h h'
      have hk6 : Keeps w w6 := Touch.nothing (F := S2) ((Touch.of_below HK5.out.below fun k hk h => absurd hk (by omega)).then ht6) fun k hk h => by have := HS2.out k h; omega
      have hfr5 := HFR5.out.touch (F := S2) ht6 fun k h h' => by
        have h1 : wr.heap.size ≤ k := h
        have h2 := (HS.out k (.inr h')).2
        omega
      obtain ⟨w7, hw7⟩ : ∃ w7, w7 = w6.alloc (.cells (frCells Q1 n1' Q2 n2' Q3 n3' (outF (fetch x a)).1) 36) := ⟨_, rfl⟩
      have hk67 : Keeps w6 w7 := by rw [hw7]; exact (Keeps.refl w6).alloc _
      have hb7 : w7.heap[w6.heap.size]? = some (.cells (frCells Q1 n1' Q2 n2' Q3 n3' (outF (fetch x a)).1) 36 (0, 0)) := by rw [hw7]; exact obj_new _ _
      have hbb7 := (hk67.below.block _ (obj_lt hb6)).trans hb6
      have hsm7 := refSame_calls P1 P2 P3 Q1 Q2 Q3 m1 m2 m3 n1' n2' n3' _ _ (outF (fetch x a)).1 (outF (fetch x a)).1 w7 (hfr5.later hk67.below) (hfr6.later hk67.below)
      rw [HSAME.out] at hsm7
      have HD7 := Lib.hid (hd6.below hk67.below)
      have HV7 := Lib.hid (hv6.below hk67.below)
      have HSM := Lib.hid hsm7
      have HK7 := Lib.hid (hk6.trans hk67)
      have hs67 := hk67.size
      unfold frCells at *
      obtain ⟨⟨d0, d1, d2, d3, d4, d5, d6, d7, d8, d9, d10⟩, _⟩ := cells11 hbb7
      obtain ⟨⟨g0, g1, g2, g3, g4, g5, g6, g7, g8, g9, g10⟩, _⟩ := cells11 hb7
      clear hpost hv6 ht6 hfr6 hb6 hd6 hk6 hfr5 hk67 hb7 hbb7 hsm7 HREF HFR5 HB5 HD5 HK5 HSAME
      generalize (outF (fetch x a)).1.cols.length = y1 at *
      generalize (outF (fetch x a)).1.block.length = y2 at *
      generalize (outF (fetch x a)).1.ents.length = y3 at *
      generalize (outF (fetch x a)).2.1 = y4 at *
      generalize (outF (fetch x a)).2.2 = y5 at *
      generalize (outF (fetch x a)).1 = y6 at *
      rw [hw7] at d0 d1 d2 d3 d4 d5 d6 d7 d8 d9 d10 g0 g1 g2 g3 g4 g5 g6 g7 g8 g9 g10
      go_wp2_with fail
      rw [← hw7]
      clear hw7
      refine HSM.out.mono ?_
      rintro e w8 ⟨rfl, hk8⟩
      have HD8 := Lib.hid (HD7.out.below hk8.below)
      have HV8 := Lib.hid (HV7.out.below hk8.below)
      have HK8 := Lib.hid (HK7.out.trans hk8)
      have hs8 := hk8.size
      clear hk8 HSM HD7 HV7 HK7 d0 d1 d2 d3 d4 d5 d6 d7 d8 d9 d10 g0 g1 g2 g3 g4 g5 g6 g7 g8 g9 g10
      go_wp2_with fail
      refine (devCounted_calls gd S1 (fetchD x a) w8 HD8.out).mono ?_
      rintro e w9 ⟨rfl, rfl⟩
      have hw9 : IntKind.i64.wrap (((fetchD x a).counted : Int) - (x.counted : Int)) = ((fetchD x a).counted : Int) - (x.counted : Int) := IntWalk.i64_in _ (by omega)
      have hle : ¬ (2202 : Int) < ((fetchD x a).counted : Int) - (x.counted : Int) := by omega
      go_wp2_with fail
      refine (devCounted_calls gd S1 (fetchD x a) w8 HD8.out).mono ?_
      rintro e w9 ⟨rfl, rfl⟩
      go_wp2_with fail
      refine (refCounted_calls gr S2 (fetchD x a) w8 HV8.out).mono ?_
      rintro e w9 ⟨rfl, rfl⟩
      have HREL : Hid (∃ i : Nat, ∃ y : Dv, i ≤ n1 ∧ Value.int .i64 ((j : Int) + 1) = .int .i64 (i : Int) ∧ Pair w8 S1 S2 gd gr y ∧ y.Ok ∧ y.counted ≤ i * 2202 ∧ w2.heap.size ≤ w8.heap.size ∧ Keeps w w8) := Lib.hid ⟨j + 1, fetchD x a, by omega, by go_num, ⟨HD8.out, HV8.out⟩, HF5.out, by rw [Nat.add_mul]; omega, by omega, HK8.out⟩
      clear hle
      go_wp2
      first
        | exact ⟨HREL.out, by simp [intOf]; omega⟩
        | (go_roundw
           case rel => exact HREL.out
           case measure => simp [intOf]; omega)
    · have hlt2 : ¬ (j : Int) < (n1 : Int) := by omega
      have HKR := Lib.hid hkr
      clear hd hv hok hkr
      go_wp2
      go_ret
      exact ⟨rfl, HKR.out⟩
end Go.Proofs.YtihodcnnappkbaaGreatDoor
