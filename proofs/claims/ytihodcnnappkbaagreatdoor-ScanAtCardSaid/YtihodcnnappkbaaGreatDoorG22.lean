/-
  The walk of the reference's scalar: a value of a kind without items. Condition: the bytes read, the row has room for them. The walk of the reference's readType. Condition: the bytes read. The walk of the reference's ValueAt. Condition: the bytes read, the row has room for them, the type may be.
-/
import Derived.Test.YtihodcnnappkbaaGreatDoorG3
import Derived.Test.YtihodcnnappkbaaGreatDoorG21
import Derived.Test.YtihodcnnappkbaaGreatDoorG9
namespace Go.Proofs.YtihodcnnappkbaaGreatDoor
open Go.RowKit Go.BigFrame
set_option linter.unusedVariables false
set_option linter.unusedSimpArgs false
attribute [local go_sem] run_storeF
def RefValPost (w : World) (r : Except Int (Va × Nat)) (e : Ending) (w' : World) : Prop :=
  match r with
  | .error er => e = .returned (.tuple #[.agg #[.int .i64 0, .int .i64 0, .float .f64 0, .string ⟨#[]⟩, .slice none 0 0], .int .i64 0, .int .i64 er]) ∧ Keeps w w'
  | .ok (t, k) => ∃ v, e = .returned (.tuple #[v, .int .i64 (k : Int), .int .i64 0]) ∧ VaS w' (fun b => w.heap.size ≤ b) v t ∧ Keeps w w'
theorem bitAt_eq (l : List UInt8) (a : Nat) : bitAt l a = rBit l a := by
  unfold bitAt rBit rByte
  by_cases h : a < l.length
  · rw [if_neg (by omega), dif_pos h]
    have hg : l.getD a 0 = l[a]'h := by simp [List.getD_eq_getElem?_getD, h]
    rw [hg]
    simp only
    by_cases h1 : 1 < (l[a]'h).toNat
    · rw [if_pos h1, if_neg (by omega)]
    · rw [if_neg h1, if_pos (by omega)]
  · rw [if_pos (by omega), dif_neg h]
theorem rFloat_err {l : List UInt8} {a : Nat} {e : Int} (h : rFloat l a = .error e) : e ≠ 0 := by
  unfold rFloat at h
  split at h
  · split at h
    · cases h
    · injection h with h; omega
  · injection h with h; omega
theorem rText_err {most : Nat} {long : Int} {l : List UInt8} {a : Nat} {e : Int} (hl : long ≠ 0) (h : rText most long l a = .error e) : e ≠ 0 := by
  unfold rText at h
  split at h
  · rename_i e1 hg
    injection h with h
    rw [← h]
    exact lebGet_err hg
  · split at h
    · split at h
      · cases h
      · injection h with h; omega
    · injection h with h; omega
theorem rText_len {most : Nat} {long : Int} {l t : List UInt8} {a j : Nat} (h : rText most long l a = .ok (t, j)) : t.length ≤ most := by
  unfold rText at h
  split at h
  · cases h
  · split at h
    · split at h
      · injection h with h
        injection h with h1 h2
        rw [← h1, List.length_take]
        omega
      · cases h
    · cases h
theorem utf_empty : utfOk empty = true := rfl
theorem zag_zero : zag 0 = 0 := rfl
abbrev scaW (w : World) (k : Int) : World :=
  (w.alloc (.cells #[.int .i64 0, .int .i64 0, .float .f64 0, .string ⟨#[]⟩, .slice none 0 0] 101)).alloc (.cells #[.int .i64 k, .int .i64 0, .float .f64 0, .string ⟨#[]⟩, .slice none 0 0] 101)
theorem scaW_r (w : World) (k : Int) : (scaW w k).heap[w.heap.size]? = some (.cells #[.int .i64 0, .int .i64 0, .float .f64 0, .string ⟨#[]⟩, .slice none 0 0] 101) := obj_old (obj_new w _) _
theorem scaW_v (w : World) (k : Int) : (scaW w k).heap[w.heap.size + 1]? = some (.cells #[.int .i64 k, .int .i64 0, .float .f64 0, .string ⟨#[]⟩, .slice none 0 0] 101) := obj_new_at _ _ _ (by simp)
theorem scaW_keeps (w : World) (k : Int) : Keeps w (scaW w k) := ((Keeps.refl w).alloc _).alloc _
def Own2 (w : World) : Nat → Prop := fun k => k = w.heap.size ∨ k = w.heap.size + 1
theorem own2_keeps {w w1 w' : World} (h : Keeps w w1) (h2 : Touch (Own2 w) w1 w') : Keeps w w' :=
  Touch.nothing ((Touch.of_below (F := Own2 w) h.below fun k hk hb => absurd hk (by omega)).then h2) fun k hk h => by unfold Own2 at h; omega
set_option maxRecDepth 10000 in
set_option maxHeartbeats 1000000 in
theorem refScalar_one (A : Option Addr) (c : Nat) (l : List UInt8) (a : Nat) (w : World) (hl : l.length ≤ 140737488355328) (hcap : l.length ≤ c) (hr : Reads w A l) (ha : a ≤ l.length) (f : Nat → Except Int (Va × Nat)) :
    Calls Tryz.prog 176 #[.int .i64 1, .slice A l.length c, .int .i64 (a : Int)] w (RefValPost w (rKinds 1 f l a)) := by
  have hp : rKinds 1 f l a = (match rBit l a with | .error e => .error e | .ok (x, j) => .ok (.mk 1 x 0 empty [], j)) := rfl
  have hr0 : Reads (scaW w 1) A l := hr.below (scaW_keeps w 1).below
  have hc := refBit_calls A c l a (scaW w 1) hl hr0 ha
  rw [bitAt_eq] at hc
  cases hb : rBit l a with
  | error er =>
    rw [hb] at hp
    try simp only at hp
    rw [hp]
    try rw [hb] at hc
    have HC := Lib.hid hc
    have HNZ := Lib.hid (show er ≠ 0 by rcases rBit_err hb with h | h <;> omega)
    clear hp hb hr0 hc hr
    generalize l.length = L at *
    go_enter Tryz.func176, Tryz.ntmps176
    go_wp2_with fail
    refine HC.out.mono ?_
    rintro e w1 ⟨rfl, hq⟩
    have hkk : Keeps (scaW w 1) w1 := hq ▸ Keeps.refl _
    clear HC hq
    simp only [bitOut]
    have hb2 := (hkk.below.block _ (obj_lt (scaW_r w 1))).trans (scaW_r w 1)
    have hb3 := (hkk.below.block _ (obj_lt (scaW_v w 1))).trans (scaW_v w 1)
    obtain ⟨d0, d1, d2, d3, d4, z0, z1, z2, z3, z4⟩ := cells5 hb2
    obtain ⟨e0, e1, e2, e3, e4, y0, y1, y2, y3, y4⟩ := cells5 hb3
    have u3 := obj_lt hb3
    have HK := Lib.hid ((scaW_keeps w 1).trans hkk)
    clear hkk hb2 hb3
    have qe : (er != 0) = true := by simpa using HNZ.out
    go_wp2
    refine bodyPost_ret (v := .tuple #[.agg #[.int .i64 0, .int .i64 0, .float .f64 0, .string ⟨#[]⟩, .slice none 0 0], .int .i64 0, .int .i64 er]) (by simp [results, Tryz.results176, go_sem, u3, d0, d1, d2, d3, d4, e0, e1, e2, e3, e4]) rfl ?_
    exact ⟨rfl, own2_keeps HK.out (((((((Touch.refl (Own2 w) w1).setCell _ _ fun _ => .inr rfl).setCell _ _ fun _ => .inl rfl).setCell _ _ fun _ => .inl rfl).setCell _ _ fun _ => .inl rfl).setCell _ _ fun _ => .inl rfl).setCell _ _ fun _ => .inl rfl)⟩
  | ok r =>
    obtain ⟨x, j⟩ := r
    rw [hb] at hp
    try simp only at hp
    rw [hp]
    try rw [hb] at hc
    have HC := Lib.hid hc
    clear hp hb hr0 hc hr
    generalize l.length = L at *
    go_enter Tryz.func176, Tryz.ntmps176
    go_wp2_with fail
    refine HC.out.mono ?_
    rintro e w1 ⟨rfl, hq⟩
    have hkk : Keeps (scaW w 1) w1 := hq ▸ Keeps.refl _
    clear HC hq
    simp only [bitOut]
    have hb2 := (hkk.below.block _ (obj_lt (scaW_r w 1))).trans (scaW_r w 1)
    have hb3 := (hkk.below.block _ (obj_lt (scaW_v w 1))).trans (scaW_v w 1)
    obtain ⟨d0, d1, d2, d3, d4, z0, z1, z2, z3, z4⟩ := cells5 hb2
    obtain ⟨e0, e1, e2, e3, e4, y0, y1, y2, y3, y4⟩ := cells5 hb3
    have u3 := obj_lt hb3
    have HK := Lib.hid ((scaW_keeps w 1).trans hkk)
    clear hkk hb2 hb3
    go_wp2
    refine bodyPost_ret (v := .tuple #[.agg #[.int .i64 1, .int .i64 (x : Int), .float .f64 0, .string ⟨#[]⟩, .slice none 0 0], .int .i64 (j : Int), .int .i64 0]) (by simp [results, Tryz.results176, go_sem, u3, d0, d1, d2, d3, d4, e0, e1, e2, e3, e4]) rfl ?_
    exact ⟨_, rfl, VaS.leaf _ _ _ _ _ _ _ _, own2_keeps HK.out (((((((Touch.refl (Own2 w) w1).setCell _ _ fun _ => .inr rfl).setCell _ _ fun _ => .inl rfl).setCell _ _ fun _ => .inl rfl).setCell _ _ fun _ => .inl rfl).setCell _ _ fun _ => .inl rfl).setCell _ _ fun _ => .inl rfl)⟩
set_option maxRecDepth 10000 in
set_option maxHeartbeats 1000000 in
theorem refScalar_two (A : Option Addr) (c : Nat) (l : List UInt8) (a : Nat) (w : World) (hl : l.length ≤ 140737488355328) (hcap : l.length ≤ c) (hr : Reads w A l) (ha : a ≤ l.length) (f : Nat → Except Int (Va × Nat)) :
    Calls Tryz.prog 176 #[.int .i64 2, .slice A l.length c, .int .i64 (a : Int)] w (RefValPost w (rKinds 2 f l a)) := by
  have hp : rKinds 2 f l a = (match lebGet l a with | .error e => .error e | .ok (n, j) => .ok (.mk 2 (zag n) 0 empty [], j)) := rfl
  have hr0 : Reads (scaW w 2) A l := hr.below (scaW_keeps w 2).below
  have hc := ref3Get_calls A c l a (scaW w 2) hl hr0 ha
  cases hb : lebGet l a with
  | error er =>
    rw [hb] at hp
    try simp only at hp
    rw [hp]
    try rw [hb] at hc
    have HC := Lib.hid hc
    have HNZ := Lib.hid (lebGet_err hb)
    clear hp hb hr0 hc hr
    generalize l.length = L at *
    go_enter Tryz.func176, Tryz.ntmps176
    go_wp2_with fail
    refine HC.out.mono ?_
    rintro e w1 ⟨rfl, hq⟩
    have hkk : Keeps (scaW w 2) w1 := hq ▸ Keeps.refl _
    clear HC hq
    simp only [getOut]
    have hb2 := (hkk.below.block _ (obj_lt (scaW_r w 2))).trans (scaW_r w 2)
    have hb3 := (hkk.below.block _ (obj_lt (scaW_v w 2))).trans (scaW_v w 2)
    obtain ⟨d0, d1, d2, d3, d4, z0, z1, z2, z3, z4⟩ := cells5 hb2
    obtain ⟨e0, e1, e2, e3, e4, y0, y1, y2, y3, y4⟩ := cells5 hb3
    have u3 := obj_lt hb3
    have HK := Lib.hid ((scaW_keeps w 2).trans hkk)
    clear hkk hb2 hb3
    have qe : (er != 0) = true := by simpa using HNZ.out
    go_wp2_with (go_at_call 183; refine (ref3Zag_calls 0 (by omega) _).mono ?_; rintro e w2 ⟨rfl, rfl⟩; rw [zag_zero])
    refine bodyPost_ret (v := .tuple #[.agg #[.int .i64 0, .int .i64 0, .float .f64 0, .string ⟨#[]⟩, .slice none 0 0], .int .i64 0, .int .i64 er]) (by simp [results, Tryz.results176, go_sem, u3, d0, d1, d2, d3, d4, e0, e1, e2, e3, e4]) rfl ?_
    exact ⟨rfl, own2_keeps HK.out (((((((Touch.refl (Own2 w) w1).setCell _ _ fun _ => .inr rfl).setCell _ _ fun _ => .inl rfl).setCell _ _ fun _ => .inl rfl).setCell _ _ fun _ => .inl rfl).setCell _ _ fun _ => .inl rfl).setCell _ _ fun _ => .inl rfl)⟩
  | ok r =>
    obtain ⟨x, j⟩ := r
    rw [hb] at hp
    try simp only at hp
    rw [hp]
    try rw [hb] at hc
    have HC := Lib.hid hc
    have HZ := Lib.hid (ref3Zag_calls x (lebGet_num hb))
    obtain ⟨X, hX⟩ : ∃ X, X = zag x := ⟨_, rfl⟩
    rw [← hX] at HZ ⊢
    clear hX
    clear hp hb hr0 hc hr
    generalize l.length = L at *
    go_enter Tryz.func176, Tryz.ntmps176
    go_wp2_with fail
    refine HC.out.mono ?_
    rintro e w1 ⟨rfl, hq⟩
    have hkk : Keeps (scaW w 2) w1 := hq ▸ Keeps.refl _
    clear HC hq
    simp only [getOut]
    have hb2 := (hkk.below.block _ (obj_lt (scaW_r w 2))).trans (scaW_r w 2)
    have hb3 := (hkk.below.block _ (obj_lt (scaW_v w 2))).trans (scaW_v w 2)
    obtain ⟨d0, d1, d2, d3, d4, z0, z1, z2, z3, z4⟩ := cells5 hb2
    obtain ⟨e0, e1, e2, e3, e4, y0, y1, y2, y3, y4⟩ := cells5 hb3
    have u3 := obj_lt hb3
    have HK := Lib.hid ((scaW_keeps w 2).trans hkk)
    clear hkk hb2 hb3
    go_wp2_with (go_at_call 183; refine (HZ.out _).mono ?_; rintro e w2 ⟨rfl, rfl⟩)
    refine bodyPost_ret (v := .tuple #[.agg #[.int .i64 2, .int .i64 X, .float .f64 0, .string ⟨#[]⟩, .slice none 0 0], .int .i64 (j : Int), .int .i64 0]) (by simp [results, Tryz.results176, go_sem, u3, d0, d1, d2, d3, d4, e0, e1, e2, e3, e4]) rfl ?_
    exact ⟨_, rfl, VaS.leaf _ _ _ _ _ _ _ _, own2_keeps HK.out (((((((Touch.refl (Own2 w) w1).setCell _ _ fun _ => .inr rfl).setCell _ _ fun _ => .inl rfl).setCell _ _ fun _ => .inl rfl).setCell _ _ fun _ => .inl rfl).setCell _ _ fun _ => .inl rfl).setCell _ _ fun _ => .inl rfl)⟩
set_option maxRecDepth 10000 in
set_option maxHeartbeats 1000000 in
theorem refScalar_three (A : Option Addr) (c : Nat) (l : List UInt8) (a : Nat) (w : World) (hl : l.length ≤ 140737488355328) (hcap : l.length ≤ c) (hr : Reads w A l) (ha : a ≤ l.length) (f : Nat → Except Int (Va × Nat)) :
    Calls Tryz.prog 176 #[.int .i64 3, .slice A l.length c, .int .i64 (a : Int)] w (RefValPost w (rKinds 3 f l a)) := by
  have hp : rKinds 3 f l a = (match rFloat l a with | .error e => .error e | .ok (x, j) => .ok (.mk 3 0 x empty [], j)) := rfl
  have hr0 : Reads (scaW w 3) A l := hr.below (scaW_keeps w 3).below
  have hc := refFloat_calls A c l a (scaW w 3) hl hr0 ha
  cases hb : rFloat l a with
  | error er =>
    rw [hb] at hp
    try simp only at hp
    rw [hp]
    try rw [hb] at hc
    have HC := Lib.hid hc
    have HNZ := Lib.hid (rFloat_err hb)
    clear hp hb hr0 hc hr
    generalize l.length = L at *
    go_enter Tryz.func176, Tryz.ntmps176
    go_wp2_with fail
    refine HC.out.mono ?_
    rintro e w1 ⟨rfl, hq⟩
    have hkk : Keeps (scaW w 3) w1 := hq ▸ Keeps.refl _
    clear HC hq
    simp only [fltOut]
    have hb2 := (hkk.below.block _ (obj_lt (scaW_r w 3))).trans (scaW_r w 3)
    have hb3 := (hkk.below.block _ (obj_lt (scaW_v w 3))).trans (scaW_v w 3)
    obtain ⟨d0, d1, d2, d3, d4, z0, z1, z2, z3, z4⟩ := cells5 hb2
    obtain ⟨e0, e1, e2, e3, e4, y0, y1, y2, y3, y4⟩ := cells5 hb3
    have u3 := obj_lt hb3
    have HK := Lib.hid ((scaW_keeps w 3).trans hkk)
    clear hkk hb2 hb3
    have qe : (er != 0) = true := by simpa using HNZ.out
    go_wp2
    refine bodyPost_ret (v := .tuple #[.agg #[.int .i64 0, .int .i64 0, .float .f64 0, .string ⟨#[]⟩, .slice none 0 0], .int .i64 0, .int .i64 er]) (by simp [results, Tryz.results176, go_sem, u3, d0, d1, d2, d3, d4, e0, e1, e2, e3, e4]) rfl ?_
    exact ⟨rfl, own2_keeps HK.out (((((((Touch.refl (Own2 w) w1).setCell _ _ fun _ => .inr rfl).setCell _ _ fun _ => .inl rfl).setCell _ _ fun _ => .inl rfl).setCell _ _ fun _ => .inl rfl).setCell _ _ fun _ => .inl rfl).setCell _ _ fun _ => .inl rfl)⟩
  | ok r =>
    obtain ⟨x, j⟩ := r
    rw [hb] at hp
    try simp only at hp
    rw [hp]
    try rw [hb] at hc
    have HC := Lib.hid hc
    clear hp hb hr0 hc hr
    generalize l.length = L at *
    go_enter Tryz.func176, Tryz.ntmps176
    go_wp2_with fail
    refine HC.out.mono ?_
    rintro e w1 ⟨rfl, hq⟩
    have hkk : Keeps (scaW w 3) w1 := hq ▸ Keeps.refl _
    clear HC hq
    simp only [fltOut]
    have hb2 := (hkk.below.block _ (obj_lt (scaW_r w 3))).trans (scaW_r w 3)
    have hb3 := (hkk.below.block _ (obj_lt (scaW_v w 3))).trans (scaW_v w 3)
    obtain ⟨d0, d1, d2, d3, d4, z0, z1, z2, z3, z4⟩ := cells5 hb2
    obtain ⟨e0, e1, e2, e3, e4, y0, y1, y2, y3, y4⟩ := cells5 hb3
    have u3 := obj_lt hb3
    have HK := Lib.hid ((scaW_keeps w 3).trans hkk)
    clear hkk hb2 hb3
    go_wp2
    refine bodyPost_ret (v := .tuple #[.agg #[.int .i64 3, .int .i64 0, .float .f64 x, .string ⟨#[]⟩, .slice none 0 0], .int .i64 (j : Int), .int .i64 0]) (by simp [results, Tryz.results176, go_sem, u3, d0, d1, d2, d3, d4, e0, e1, e2, e3, e4]) rfl ?_
    exact ⟨_, rfl, VaS.leaf _ _ _ _ _ _ _ _, own2_keeps HK.out (((((((Touch.refl (Own2 w) w1).setCell _ _ fun _ => .inr rfl).setCell _ _ fun _ => .inl rfl).setCell _ _ fun _ => .inl rfl).setCell _ _ fun _ => .inl rfl).setCell _ _ fun _ => .inl rfl).setCell _ _ fun _ => .inl rfl)⟩
set_option maxRecDepth 10000 in
set_option maxHeartbeats 1000000 in
theorem refScalar_four (A : Option Addr) (c : Nat) (l : List UInt8) (a : Nat) (w : World) (hl : l.length ≤ 140737488355328) (hcap : l.length ≤ c) (hr : Reads w A l) (ha : a ≤ l.length) (f : Nat → Except Int (Va × Nat)) :
    Calls Tryz.prog 176 #[.int .i64 4, .slice A l.length c, .int .i64 (a : Int)] w (RefValPost w (rKinds 4 f l a)) := by
  have hp : rKinds 4 f l a = (match rText 1024 2 l a with | .error e => .error e | .ok (t, j) => if utfOk (str t) then .ok (.mk 4 0 0 (str t) [], j) else .error 61) := rfl
  have hr0 : Reads (scaW w 4) A l := hr.below (scaW_keeps w 4).below
  have hc := refText_calls A c l a 1024 2 (scaW w 4) hl hcap hr0 ha (by omega)
  cases hb : rText 1024 2 l a with
  | error er =>
    rw [hb] at hp
    try simp only at hp
    rw [hp]
    try rw [hb] at hc
    have HC := Lib.hid hc
    have HNZ := Lib.hid (rText_err (by omega) hb)
    have HU := Lib.hid (fun wx => refUtf_calls ⟨#[]⟩ wx (show 0 ≤ _ by omega))
    rw [show utfOk ⟨#[]⟩ = true from utf_empty] at HU
    clear hp hb hr0 hc hr
    generalize l.length = L at *
    go_enter Tryz.func176, Tryz.ntmps176
    go_wp2_with fail
    refine HC.out.mono ?_
    rintro e w1 ⟨rfl, hkk⟩
    clear HC
    simp only [textOut]
    have hb2 := (hkk.below.block _ (obj_lt (scaW_r w 4))).trans (scaW_r w 4)
    have hb3 := (hkk.below.block _ (obj_lt (scaW_v w 4))).trans (scaW_v w 4)
    obtain ⟨d0, d1, d2, d3, d4, z0, z1, z2, z3, z4⟩ := cells5 hb2
    obtain ⟨e0, e1, e2, e3, e4, y0, y1, y2, y3, y4⟩ := cells5 hb3
    have u3 := obj_lt hb3
    have HK := Lib.hid ((scaW_keeps w 4).trans hkk)
    clear hkk hb2 hb3
    have qe : (er != 0) = true := by simpa using HNZ.out
    go_wp2_with (go_at_call 181; refine (HU.out _).mono ?_; rintro e w2 ⟨rfl, rfl⟩)
    refine bodyPost_ret (v := .tuple #[.agg #[.int .i64 0, .int .i64 0, .float .f64 0, .string ⟨#[]⟩, .slice none 0 0], .int .i64 0, .int .i64 er]) (by simp [results, Tryz.results176, go_sem, u3, d0, d1, d2, d3, d4, e0, e1, e2, e3, e4]) rfl ?_
    exact ⟨rfl, own2_keeps HK.out (((((((Touch.refl (Own2 w) w1).setCell _ _ fun _ => .inr rfl).setCell _ _ fun _ => .inl rfl).setCell _ _ fun _ => .inl rfl).setCell _ _ fun _ => .inl rfl).setCell _ _ fun _ => .inl rfl).setCell _ _ fun _ => .inl rfl)⟩
  | ok r =>
    obtain ⟨t, j⟩ := r
    rw [hb] at hp
    try simp only at hp
    try rw [hb] at hc
    have hts : (str t).size ≤ 1024 := by
      have h := rText_len hb
      show t.toArray.size ≤ 1024
      simpa using h
    have hu := fun wx => refUtf_calls (str t) wx (by omega)
    cases hy : utfOk (str t) with
    | true =>
      rw [hy] at hu hp
      rw [if_pos rfl] at hp
      rw [hp]
      have HC := Lib.hid hc
      simp only [textOut] at HC
      generalize str t = T at *
      have HU := Lib.hid hu
      clear hu hy
      clear hp hb hr0 hc hr hts
      generalize l.length = L at *
      go_enter Tryz.func176, Tryz.ntmps176
      go_wp2_with fail
      refine HC.out.mono ?_
      rintro e w1 ⟨rfl, hkk⟩
      clear HC
      have hb2 := (hkk.below.block _ (obj_lt (scaW_r w 4))).trans (scaW_r w 4)
      have hb3 := (hkk.below.block _ (obj_lt (scaW_v w 4))).trans (scaW_v w 4)
      obtain ⟨d0, d1, d2, d3, d4, z0, z1, z2, z3, z4⟩ := cells5 hb2
      obtain ⟨e0, e1, e2, e3, e4, y0, y1, y2, y3, y4⟩ := cells5 hb3
      have u3 := obj_lt hb3
      have HK := Lib.hid ((scaW_keeps w 4).trans hkk)
      clear hkk hb2 hb3
      go_wp2_with (go_at_call 181; refine (HU.out _).mono ?_; rintro e w2 ⟨rfl, rfl⟩)
      refine bodyPost_ret (v := .tuple #[.agg #[.int .i64 4, .int .i64 0, .float .f64 0, .string T, .slice none 0 0], .int .i64 (j : Int), .int .i64 0]) (by simp [results, Tryz.results176, go_sem, u3, d0, d1, d2, d3, d4, e0, e1, e2, e3, e4]) rfl ?_
      exact ⟨_, rfl, VaS.leaf _ _ _ _ _ _ _ _, own2_keeps HK.out (((((((Touch.refl (Own2 w) w1).setCell _ _ fun _ => .inr rfl).setCell _ _ fun _ => .inl rfl).setCell _ _ fun _ => .inl rfl).setCell _ _ fun _ => .inl rfl).setCell _ _ fun _ => .inl rfl).setCell _ _ fun _ => .inl rfl)⟩
    | false =>
      rw [hy] at hu hp
      rw [if_neg (by simp)] at hp
      rw [hp]
      have HC := Lib.hid hc
      simp only [textOut] at HC
      generalize str t = T at *
      have HU := Lib.hid hu
      clear hu hy
      clear hp hb hr0 hc hr hts
      generalize l.length = L at *
      go_enter Tryz.func176, Tryz.ntmps176
      go_wp2_with fail
      refine HC.out.mono ?_
      rintro e w1 ⟨rfl, hkk⟩
      clear HC
      have hb2 := (hkk.below.block _ (obj_lt (scaW_r w 4))).trans (scaW_r w 4)
      have hb3 := (hkk.below.block _ (obj_lt (scaW_v w 4))).trans (scaW_v w 4)
      obtain ⟨d0, d1, d2, d3, d4, z0, z1, z2, z3, z4⟩ := cells5 hb2
      obtain ⟨e0, e1, e2, e3, e4, y0, y1, y2, y3, y4⟩ := cells5 hb3
      have u3 := obj_lt hb3
      have HK := Lib.hid ((scaW_keeps w 4).trans hkk)
      clear hkk hb2 hb3
      go_wp2_with (go_at_call 181; refine (HU.out _).mono ?_; rintro e w2 ⟨rfl, rfl⟩)
      refine bodyPost_ret (v := .tuple #[.agg #[.int .i64 0, .int .i64 0, .float .f64 0, .string ⟨#[]⟩, .slice none 0 0], .int .i64 0, .int .i64 61]) (by simp [results, Tryz.results176, go_sem, u3, d0, d1, d2, d3, d4, e0, e1, e2, e3, e4]) rfl ?_
      exact ⟨rfl, own2_keeps HK.out (((((((Touch.refl (Own2 w) w1).setCell _ _ fun _ => .inr rfl).setCell _ _ fun _ => .inl rfl).setCell _ _ fun _ => .inl rfl).setCell _ _ fun _ => .inl rfl).setCell _ _ fun _ => .inl rfl).setCell _ _ fun _ => .inl rfl)⟩
set_option maxRecDepth 10000 in
set_option maxHeartbeats 1000000 in
theorem refScalar_five (A : Option Addr) (c : Nat) (l : List UInt8) (a : Nat) (w : World) (hl : l.length ≤ 140737488355328) (hcap : l.length ≤ c) (hr : Reads w A l) (ha : a ≤ l.length) (f : Nat → Except Int (Va × Nat)) :
    Calls Tryz.prog 176 #[.int .i64 5, .slice A l.length c, .int .i64 (a : Int)] w (RefValPost w (rKinds 5 f l a)) := by
  have hp : rKinds 5 f l a = (match rText 1024 2 l a with | .error e => .error e | .ok (t, j) => .ok (.mk 5 0 0 (str t) [], j)) := rfl
  have hr0 : Reads (scaW w 5) A l := hr.below (scaW_keeps w 5).below
  have hc := refText_calls A c l a 1024 2 (scaW w 5) hl hcap hr0 ha (by omega)
  cases hb : rText 1024 2 l a with
  | error er =>
    rw [hb] at hp
    try simp only at hp
    rw [hp]
    try rw [hb] at hc
    have HC := Lib.hid hc
    have HNZ := Lib.hid (rText_err (by omega) hb)
    have HU := Lib.hid (fun wx => refUtf_calls ⟨#[]⟩ wx (show 0 ≤ _ by omega))
    rw [show utfOk ⟨#[]⟩ = true from utf_empty] at HU
    clear hp hb hr0 hc hr
    generalize l.length = L at *
    go_enter Tryz.func176, Tryz.ntmps176
    go_wp2_with fail
    refine HC.out.mono ?_
    rintro e w1 ⟨rfl, hkk⟩
    clear HC
    simp only [textOut]
    have hb2 := (hkk.below.block _ (obj_lt (scaW_r w 5))).trans (scaW_r w 5)
    have hb3 := (hkk.below.block _ (obj_lt (scaW_v w 5))).trans (scaW_v w 5)
    obtain ⟨d0, d1, d2, d3, d4, z0, z1, z2, z3, z4⟩ := cells5 hb2
    obtain ⟨e0, e1, e2, e3, e4, y0, y1, y2, y3, y4⟩ := cells5 hb3
    have u3 := obj_lt hb3
    have HK := Lib.hid ((scaW_keeps w 5).trans hkk)
    clear hkk hb2 hb3
    have qe : (er != 0) = true := by simpa using HNZ.out
    go_wp2_with (go_at_call 181; refine (HU.out _).mono ?_; rintro e w2 ⟨rfl, rfl⟩)
    refine bodyPost_ret (v := .tuple #[.agg #[.int .i64 0, .int .i64 0, .float .f64 0, .string ⟨#[]⟩, .slice none 0 0], .int .i64 0, .int .i64 er]) (by simp [results, Tryz.results176, go_sem, u3, d0, d1, d2, d3, d4, e0, e1, e2, e3, e4]) rfl ?_
    exact ⟨rfl, own2_keeps HK.out (((((((Touch.refl (Own2 w) w1).setCell _ _ fun _ => .inr rfl).setCell _ _ fun _ => .inl rfl).setCell _ _ fun _ => .inl rfl).setCell _ _ fun _ => .inl rfl).setCell _ _ fun _ => .inl rfl).setCell _ _ fun _ => .inl rfl)⟩
  | ok r =>
    obtain ⟨t, j⟩ := r
    rw [hb] at hp
    try simp only at hp
    try rw [hb] at hc
    have hts : (str t).size ≤ 1024 := by
      have h := rText_len hb
      show t.toArray.size ≤ 1024
      simpa using h
    have hu := fun wx => refUtf_calls (str t) wx (by omega)
    rw [hp]
    have HC := Lib.hid hc
    simp only [textOut] at HC
    generalize str t = T at *
    have HU := Lib.hid hu
    clear hu
    generalize utfOk T = Y at HU
    clear hp hb hr0 hc hr hts
    generalize l.length = L at *
    go_enter Tryz.func176, Tryz.ntmps176
    go_wp2_with fail
    refine HC.out.mono ?_
    rintro e w1 ⟨rfl, hkk⟩
    clear HC
    have hb2 := (hkk.below.block _ (obj_lt (scaW_r w 5))).trans (scaW_r w 5)
    have hb3 := (hkk.below.block _ (obj_lt (scaW_v w 5))).trans (scaW_v w 5)
    obtain ⟨d0, d1, d2, d3, d4, z0, z1, z2, z3, z4⟩ := cells5 hb2
    obtain ⟨e0, e1, e2, e3, e4, y0, y1, y2, y3, y4⟩ := cells5 hb3
    have u3 := obj_lt hb3
    have HK := Lib.hid ((scaW_keeps w 5).trans hkk)
    clear hkk hb2 hb3
    go_wp2_with (go_at_call 181; refine (HU.out _).mono ?_; rintro e w2 ⟨rfl, rfl⟩)
    refine bodyPost_ret (v := .tuple #[.agg #[.int .i64 5, .int .i64 0, .float .f64 0, .string T, .slice none 0 0], .int .i64 (j : Int), .int .i64 0]) (by simp [results, Tryz.results176, go_sem, u3, d0, d1, d2, d3, d4, e0, e1, e2, e3, e4]) rfl ?_
    exact ⟨_, rfl, VaS.leaf _ _ _ _ _ _ _ _, own2_keeps HK.out (((((((Touch.refl (Own2 w) w1).setCell _ _ fun _ => .inr rfl).setCell _ _ fun _ => .inl rfl).setCell _ _ fun _ => .inl rfl).setCell _ _ fun _ => .inl rfl).setCell _ _ fun _ => .inl rfl).setCell _ _ fun _ => .inl rfl)⟩
theorem refScalar_calls (k : Int) (h1 : 1 ≤ k) (h5 : k ≤ 5) (A : Option Addr) (c : Nat) (l : List UInt8) (a : Nat) (w : World) (hl : l.length ≤ 140737488355328) (hcap : l.length ≤ c) (hr : Reads w A l) (ha : a ≤ l.length) (f : Nat → Except Int (Va × Nat)) :
    Calls Tryz.prog 176 #[.int .i64 k, .slice A l.length c, .int .i64 (a : Int)] w (RefValPost w (rKinds k f l a)) := by
  obtain rfl | rfl | rfl | rfl | rfl : k = 1 ∨ k = 2 ∨ k = 3 ∨ k = 4 ∨ k = 5 := by omega
  · exact refScalar_one A c l a w hl hcap hr ha f
  · exact refScalar_two A c l a w hl hcap hr ha f
  · exact refScalar_three A c l a w hl hcap hr ha f
  · exact refScalar_four A c l a w hl hcap hr ha f
  · exact refScalar_five A c l a w hl hcap hr ha f
end Go.Proofs.YtihodcnnappkbaaGreatDoor
namespace Go.Proofs.YtihodcnnappkbaaGreatDoor
open Go.RowKit Go.BigFrame
set_option linter.unusedVariables false
set_option linter.unusedSimpArgs false
def RefKindPost (w : World) (r : Except Int (Ty × Nat)) (e : Ending) (w' : World) : Prop :=
  match r with
  | .error er => e = .returned (.tuple #[.agg #[.int .i64 0, .slice none 0 0], .int .i64 0, .int .i64 er]) ∧ Keeps w w'
  | .ok (t, k) => ∃ v, e = .returned (.tuple #[v, .int .i64 (k : Int), .int .i64 0]) ∧ TyS w' (fun b => w.heap.size ≤ b) v t ∧ Keeps w w'
theorem rKind_err : ∀ (n : Nat) (l : List UInt8) (a : Nat) (e : Int), rKind n l a = .error e → e ≠ 0
  | 0, l, a, e, h => by
    rw [rKind] at h
    injection h with h
    omega
  | n + 1, l, a, e, h => by
    rw [rKind] at h
    split at h
    · rename_i e1 hb
      unfold rByte at hb
      split at hb
      · cases hb
      · injection hb with hb
        injection h with h
        omega
    · split at h
      · injection h with h
        omega
      · split at h
        · unfold rKindOf at h
          split at h
          · rename_i e2 hk
            injection h with h
            rw [← h]
            exact rKind_err n _ _ _ hk
          · cases h
        · cases h
theorem res_keeps {w w1 w' : World} (h : Keeps w w1) (h2 : Touch (At w.heap.size) w1 w') : Keeps w w' :=
  Touch.nothing ((Touch.of_below (F := At w.heap.size) h.below fun k hk hb => absurd hk (by omega)).then h2) fun k hk h => by rw [At] at h; omega
set_option maxRecDepth 10000 in
set_option maxHeartbeats 1000000 in
theorem refReadType_calls (A : Option Addr) (c : Nat) (l : List UInt8) (hl : l.length ≤ 140737488355328) (n : Nat) : ∀ (d a : Nat) (w : World), n + d = 5 → Reads w A l → a ≤ l.length →
    Calls Tryz.prog 159 #[.slice A l.length c, .int .i64 (a : Int), .int .i64 (d : Int)] w (RefKindPost w (rKind n l a)) := by
  induction n with
  | zero =>
    intro d a w hd hr ha
    obtain rfl : d = 5 := by omega
    rw [rKind]
    clear hr hd
    generalize l.length = L at *
    obtain ⟨W0, hW0⟩ : ∃ W0, W0 = w.alloc (.cells #[.int .i64 0, .slice none 0 0] 97) := ⟨_, rfl⟩
    have hk0 : Keeps w W0 := by rw [hW0]; exact (Keeps.refl w).alloc _
    have hb0 : W0.heap[w.heap.size]? = some (.cells #[.int .i64 0, .slice none 0 0] 97) := by rw [hW0]; exact obj_new w _
    go_enter Tryz.func159, Tryz.ntmps159
    go_wp2
    refine bodyPost_ret (v := .tuple #[.agg #[.int .i64 0, .slice none 0 0], .int .i64 0, .int .i64 62]) (by simp [results, Tryz.results159, go_sem]) rfl ?_
    exact ⟨rfl, (Keeps.refl w).alloc _⟩
  | succ n ih =>
    intro d a w hd hr ha
    have hd4 : d ≤ 4 := by omega
    obtain ⟨R, hR⟩ : ∃ R, R = rKind (n + 1) l a := ⟨_, rfl⟩
    rw [← hR]
    rw [rKind, rByte] at hR
    by_cases hlt : a < l.length
    · rw [dif_pos hlt] at hR
      simp only at hR
      obtain ⟨ad, rfl, hcell⟩ := hr.out a hlt
      have hbl : (ad.add a).block < w.heap.size := World.block_lt_of_cell? w _ hcell
      obtain ⟨x, hx⟩ : ∃ x, x = (l[a]'hlt).toNat := ⟨_, rfl⟩
      have hx256 : x < 256 := by rw [hx]; exact (l[a]'hlt).toNat_lt
      rw [← hx] at hR hcell
      have hxw : IntKind.i64.wrap (x : Int) = (x : Int) := IntWalk.i64_in _ (by omega)
      have haw : IntKind.i64.wrap ((a : Int) + 1) = ((a + 1 : Nat) : Int) := by rw [IntWalk.i64_in _ (by omega)]; omega
      have hge : ¬ l.length ≤ a := by omega
      by_cases h17 : x < 1 ∨ 7 < x
      · rw [if_pos h17] at hR
        have HR := Lib.hid hR
        clear hR hr ih hd hx ha
        generalize l.length = L at *
        rcases h17 with h17 | h17
        · have q1 : decide ((x : Int) < 1) = true := by rw [decide_eq_true_eq]; omega
          have q2 : (x : Int) < 1 := by omega
          clear h17
          go_enter Tryz.func159, Tryz.ntmps159
          go_wp2
          refine bodyPost_ret (v := .tuple #[.agg #[.int .i64 0, .slice none 0 0], .int .i64 0, .int .i64 60]) (by simp [results, Tryz.results159, go_sem]) rfl ?_
          rw [HR.out]
          exact ⟨rfl, (Keeps.refl w).alloc _⟩
        · have q1 : decide ((x : Int) < 1) = false := by rw [decide_eq_false_iff_not]; omega
          have q2 : decide ((7 : Int) < (x : Int)) = true := by rw [decide_eq_true_eq]; omega
          clear h17
          go_enter Tryz.func159, Tryz.ntmps159
          go_wp2
          refine bodyPost_ret (v := .tuple #[.agg #[.int .i64 0, .slice none 0 0], .int .i64 0, .int .i64 60]) (by simp [results, Tryz.results159, go_sem]) rfl ?_
          rw [HR.out]
          exact ⟨rfl, (Keeps.refl w).alloc _⟩
      · rw [if_neg h17] at hR
        have q1 : decide ((x : Int) < 1) = false := by rw [decide_eq_false_iff_not]; omega
        have q2 : decide ((7 : Int) < (x : Int)) = false := by rw [decide_eq_false_iff_not]; omega
        by_cases h67 : x = 6 ∨ x = 7
        · rw [if_pos h67] at hR
          have hdw : IntKind.i64.wrap ((d : Int) + 1) = ((d + 1 : Nat) : Int) := by rw [IntWalk.i64_in _ (by omega)]; omega
          obtain ⟨W0, hW0⟩ : ∃ W0, W0 = w.alloc (.cells #[.int .i64 0, .slice none 0 0] 97) := ⟨_, rfl⟩
          have hk0 : Keeps w W0 := by rw [hW0]; exact (Keeps.refl w).alloc _
          have hb0 : W0.heap[w.heap.size]? = some (.cells #[.int .i64 0, .slice none 0 0] 97) := by rw [hW0]; exact obj_new w _
          have HS0 := Lib.hid (show W0.heap.size = w.heap.size + 1 by rw [hW0]; simp)
          have hc := ih (d + 1) (a + 1) W0 (by omega) (hr.below hk0.below) (by omega)
          have HK0 := Lib.hid hk0
          have HB0 := Lib.hid hb0
          clear hk0 hb0 hr ih hx h17
          cases hq : rKind n l (a + 1) with
          | error er =>
            rw [hq] at hc hR
            have HC := Lib.hid hc
            have HR := Lib.hid hR
            have qe : (er != 0) = true := by simpa using rKind_err _ _ _ _ hq
            clear hc hR hq hd ha
            generalize l.length = L at *
            rcases h67 with h6 | h7
            have q6 : ((x : Int) != 6) = false := by rw [bne_eq_false_iff_eq]; omega
            rotate_left
            have q6 : ((x : Int) != 6) = true := by rw [bne_iff_ne]; omega
            have q7 : ((x : Int) != 7) = false := by rw [bne_eq_false_iff_eq]; omega
            all_goals
              first | clear h6 | clear h7
              go_enter Tryz.func159, Tryz.ntmps159
              go_wp2_with fail
              rw [← hW0]
              clear hW0
              refine HC.out.mono ?_
              rintro e w1 ⟨rfl, hk1⟩
              have hb1 := (hk1.below.block _ (obj_lt HB0.out)).trans HB0.out
              obtain ⟨d0, d1, z0, z1⟩ := cells2 hb1
              have u1 := obj_lt hb1
              have HK1 := Lib.hid (HK0.out.trans hk1)
              clear hk1 hb1 HC
              go_wp2
              refine bodyPost_ret (v := .tuple #[.agg #[.int .i64 0, .slice none 0 0], .int .i64 0, .int .i64 er]) (by simp [results, Tryz.results159, go_sem, u1, d0, d1]) rfl ?_
              rw [HR.out]
              exact ⟨rfl, res_keeps HK1.out ((((Touch.refl _ w1).set 0 _).set 1 _).alloc _)⟩
          | ok r =>
            obtain ⟨t, k⟩ := r
            rw [hq] at hc hR
            have HC := Lib.hid hc
            have HR := Lib.hid hR
            clear hc hR hq hd ha
            generalize l.length = L at *
            rcases h67 with h6 | h7
            have q6 : ((x : Int) != 6) = false := by rw [bne_eq_false_iff_eq]; omega
            rotate_left
            have q6 : ((x : Int) != 6) = true := by rw [bne_iff_ne]; omega
            have q7 : ((x : Int) != 7) = false := by rw [bne_eq_false_iff_eq]; omega
            all_goals
              first | clear h6 | clear h7
              go_enter Tryz.func159, Tryz.ntmps159
              go_wp2_with fail
              rw [← hW0]
              clear hW0
              refine HC.out.mono ?_
              rintro e w1 ⟨v, rfl, htv, hk1⟩
              obtain ⟨A2, c2, rfl⟩ := htv.form
              have hb1 := (hk1.below.block _ (obj_lt HB0.out)).trans HB0.out
              obtain ⟨d0, d1, z0, z1⟩ := cells2 hb1
              have u1 := obj_lt hb1
              have HK1 := Lib.hid (HK0.out.trans hk1)
              have HK01 := Lib.hid hk1
              have HTV := Lib.hid htv
              clear hk1 hb1 HC htv
              generalize hm : t.of.length = m at HTV
              clear hm
              go_wp2
              refine bodyPost_ret (v := .tuple #[.agg #[.int .i64 (x : Int), .slice (some ⟨w1.heap.size + 1, 0, none⟩) 1 1], .int .i64 (k : Int), .int .i64 0]) (by simp [results, Tryz.results159, go_sem, u1, d0, d1]) rfl ?_
              rw [HR.out]
              have hT := fun u0 u1 o1 o2 => (((((Touch.refl (At w.heap.size) w1).set 0 u0).set 1 u1).alloc o1).alloc o2)
              refine ⟨_, rfl, TyS.one (((HTV.out.touch (hT _ _ _ _) fun b hb e => by have h1 := HS0.out; have h2 : b = w.heap.size := e; omega)).mono fun b _ hb => by have h1 := HS0.out; omega) _ ⟨w1.heap.size + 1, 0, none⟩ 1 (by have := HK1.out.size; show w.heap.size ≤ w1.heap.size + 1; omega) ?_ ?_, res_keeps HK1.out (hT _ _ _ _)⟩
              · show World.cell? _ ⟨w1.heap.size + 1, 0, none⟩ = _
                rw [obj_cell (obj_new_at _ _ _ (by simp [World.setCell]))]
                rfl
              · show World.cell? _ ⟨w1.heap.size + 1, 1, none⟩ = _
                rw [obj_cell (obj_new_at _ _ _ (by simp [World.setCell]))]
                rfl
        · rw [if_neg h67] at hR
          have HR := Lib.hid hR
          have q6 : ((x : Int) != 6) = true := by rw [bne_iff_ne]; omega
          have q7 : ((x : Int) != 7) = true := by rw [bne_iff_ne]; omega
          clear hR hr ih hd hx ha h17 h67
          generalize l.length = L at *
          go_enter Tryz.func159, Tryz.ntmps159
          go_wp2
          refine bodyPost_ret (v := .tuple #[.agg #[.int .i64 (x : Int), .slice none 0 0], .int .i64 ((a + 1 : Nat) : Int), .int .i64 0]) (by simp [results, Tryz.results159, go_sem]) rfl ?_
          rw [HR.out]
          exact ⟨_, rfl, TyS.leaf _ _ _ _ _, (Keeps.refl w).alloc _⟩
    · rw [dif_neg hlt] at hR
      have HR := Lib.hid hR
      have hge : l.length ≤ a := by omega
      clear hR hr ih hd hlt
      generalize l.length = L at *
      go_enter Tryz.func159, Tryz.ntmps159
      go_wp2
      refine bodyPost_ret (v := .tuple #[.agg #[.int .i64 0, .slice none 0 0], .int .i64 0, .int .i64 30]) (by simp [results, Tryz.results159, go_sem]) rfl ?_
      rw [HR.out]
      exact ⟨rfl, (Keeps.refl w).alloc _⟩
end Go.Proofs.YtihodcnnappkbaaGreatDoor
namespace Go.Proofs.YtihodcnnappkbaaGreatDoor
open Go.RowKit Go.BigFrame
set_option linter.unusedVariables false
set_option linter.unusedSimpArgs false
attribute [local go_sem] run_storeF
theorem leb_some (n : Nat) : 0 < (leb n).length := by
  rw [leb]
  split <;> simp
theorem putVa_some {v : Va} (h : vaOwn v = true) : 0 < (putVa v).length := by
  cases v with
  | mk k i f t l =>
    have h17 : 1 ≤ k ∧ k ≤ 7 := by
      rw [vaOwn] at h
      by_cases h1 : 1 ≤ k <;> by_cases h7 : k ≤ 7
      · exact ⟨h1, h7⟩
      all_goals
        exfalso
        simp only [show ¬ k = 1 by omega, show ¬ k = 2 by omega, show ¬ k = 3 by omega, show ¬ k = 4 by omega, show ¬ k = 5 by omega, show ¬ k = 6 by omega, show ¬ k = 7 by omega] at h
        simp at h
    rw [putVa]
    split
    · simp
    split
    · exact leb_some _
    split
    · rw [le8_length]; omega
    split
    · unfold textBytes; rw [List.length_append]; have := leb_some t.size; omega
    split
    · simp
    · rw [List.length_append]; have := leb_some l.length; omega
theorem rValue_le {t : Ty} {d : Nat} {l : List UInt8} {a k : Nat} {v : Va} (ht : tyCheck t d = 0) (h : rValue t l a = .ok (v, k)) : k ≤ l.length := by
  have hd : d ≤ 4 := by cases t with | mk k ts => exact (tyCheck_ok ht).1
  obtain ⟨hc, _, hv, _⟩ := rValue_cut (5 - d) t d l a v k (by omega) ht h
  have : vaOwn v = true := by cases v with | mk k i f t l => exact (vaCheck_ok hv).2.1
  exact hc.le (putVa_some this)
theorem rMany_err {f : Nat → Except Int (Va × Nat)} (hf : ∀ a e, f a = .error e → e ≠ 0) : ∀ (n a : Nat) (vs : List Va) (e : Int), rMany f n a vs = .error e → e ≠ 0
  | 0, a, vs, e, h => by rw [rMany] at h; cases h
  | n + 1, a, vs, e, h => by
    rw [rMany] at h
    split at h
    · rename_i e1 he
      injection h with h
      rw [← h]
      exact hf _ _ he
    · exact rMany_err hf n _ _ _ h
theorem rList_err {k : Int} {r : Except Int (List Va × Nat)} {e : Int} (h : rList k r = .error e) : r = .error e := by
  unfold rList at h
  split at h
  · injection h with h
    rw [h]
  · cases h
theorem rValue_err : ∀ (n : Nat) (t : Ty) (d : Nat), n + d = 5 → tyCheck t d = 0 → ∀ (l : List UInt8) (a : Nat) (e : Int), rValue t l a = .error e → e ≠ 0
  | 0, .mk k ts, d, hd, ht => by have := (tyCheck_ok ht).1; omega
  | n + 1, .mk k ts, d, hd, ht => by
    intro l a e h
    obtain ⟨_, h1, h7, h67, hno⟩ := tyCheck_ok ht
    rw [rValue] at h
    unfold rKinds at h
    split at h
    · split at h
      · rename_i e1 hb
        injection h with h
        rcases rBit_err hb with h' | h' <;> omega
      · cases h
    split at h
    · split at h
      · rename_i e1 hb
        injection h with h
        rw [← h]; exact lebGet_err hb
      · cases h
    split at h
    · split at h
      · rename_i e1 hb
        injection h with h
        rw [← h]; exact rFloat_err hb
      · cases h
    split at h
    · split at h
      · rename_i e1 hb
        injection h with h
        rw [← h]; exact rText_err (by omega) hb
      · split at h
        · cases h
        · injection h with h; omega
    split at h
    · split at h
      · rename_i e1 hb
        injection h with h
        rw [← h]; exact rText_err (by omega) hb
      · cases h
    split at h
    · rename_i k6
      obtain ⟨t, rfl, htc⟩ := h67 (.inl k6)
      split at h
      · rename_i e1 hb
        injection h with h
        rcases rBit_err hb with h' | h' <;> omega
      · exact rMany_err (fun a e => rValue_err n t (d + 1) (by omega) htc l a e) _ _ _ _ (rList_err h)
    split at h
    · rename_i k7
      obtain ⟨t, rfl, htc⟩ := h67 (.inr k7)
      split at h
      · rename_i e1 hb
        injection h with h
        rw [← h]; exact lebGet_err hb
      · split at h
        · exact rMany_err (fun a e => rValue_err n t (d + 1) (by omega) htc l a e) _ _ _ _ (rList_err h)
        · injection h with h; omega
    · cases h
def RefReadV (n : Nat) : Prop := ∀ (t : Ty) (d : Nat) (v : Value) (A : Option Addr) (c : Nat) (l : List UInt8) (a : Nat) (w : World), SizeOf.sizeOf t < n → tyCheck t d = 0 → TyAt w v t → l.length ≤ 140737488355328 → l.length ≤ c → Reads w A l → a ≤ l.length →
    Calls Tryz.prog 161 #[v, .slice A l.length c, .int .i64 (a : Int)] w (RefValPost w (rValue t l a))
structure RMany (w : World) (k : Int) (s : Value) (f : Nat → Except Int (Va × Nat)) (many : Nat) (R : Except Int (List Va × Nat)) (j : Nat) (Ar : Option Addr) (cr : Nat) (wr : World) (a : Nat) (vs : List Va) (xs : List Value) : Prop where
  le : j ≤ many
  len : vs.length = j
  res : R = rMany f (many - j) a vs
  own : Loose wr (w.heap.size + 3) 101 5 (.slice Ar j cr) j xs
  items : Items wr (fun b => w.heap.size + 3 ≤ b ∧ blk (.slice Ar j cr) ≠ some b) xs vs
  bt : wr.heap[w.heap.size]? = some (.cells #[.int .i64 k, s] 97)
  br : wr.heap[w.heap.size + 1]? = some (.cells #[.int .i64 0, .int .i64 0, .float .f64 0, .string ⟨#[]⟩, .slice none 0 0] 101)
  bv : wr.heap[w.heap.size + 1 + 1]? = some (.cells #[.int .i64 k, .int .i64 0, .float .f64 0, .string ⟨#[]⟩, .slice Ar j cr] 101)
  keeps : Keeps w wr
theorem RMany.step {w : World} {k : Int} {s : Value} {f : Nat → Except Int (Va × Nat)} {many : Nat} {R : Except Int (List Va × Nat)} {j : Nat} {Ar : Option Addr} {cr : Nat} {wr : World} {a : Nat} {vs : List Va} {xs : List Value}
    (h : RMany w k s f many R j Ar cr wr a vs xs) (hlt : j < many) {y : Va} {k2 : Nat} (hq : R = rMany f (many - j - 1) k2 (vs ++ [y]))
    {w3 W3 : World} {A3 : Option Addr} {c3 : Nat} (hv3 : VaS w3 (fun b => wr.heap.size ≤ b) (.agg #[.int .i64 y.kind, .int .i64 y.int, .float .f64 y.fl, .string y.text, .slice A3 y.items.length c3]) y)
    (ht30 : Keeps wr w3) (hk3 : Keeps w3 W3) {w4 : World} {A4 : Option Addr} {c4 : Nat}
    (hl4 : Loose w4 (w.heap.size + 3) 101 5 (.slice A4 (j + 1) c4) (j + 1) (xs ++ [.int .i64 y.kind, .int .i64 y.int, .float .f64 y.fl, .string y.text, .slice A3 y.items.length c3]))
    (hg4 : W3.grownBy w4 (blk (.slice Ar j cr)))
    (ha4 : blk (.slice A4 (j + 1) c4) = blk (.slice Ar j cr) ∨ blk (.slice A4 (j + 1) c4) = some W3.heap.size)
    (hv4 : w4.heap[w.heap.size + 1 + 1]? = some (.cells #[.int .i64 k, .int .i64 0, .float .f64 0, .string ⟨#[]⟩, .slice Ar j cr] 101)) :
    RMany w k s f many R (j + 1) A4 c4 (w4.setCell ⟨w.heap.size + 1 + 1, 4, none⟩ (.slice A4 (j + 1) c4)) k2 (vs ++ [y]) (xs ++ [.int .i64 y.kind, .int .i64 y.int, .float .f64 y.fl, .string y.text, .slice A3 y.items.length c3]) := by
  have hown := h.own.lt
  have hbv := obj_lt h.bv
  have hsz3 : wr.heap.size ≤ w3.heap.size := ht30.size
  have hszW := hk3.size
  have hnew := hl4.lt
  have htF : Touch (fun b => blk (.slice Ar j cr) = some b ∨ b = w.heap.size + 1 + 1) W3 (w4.setCell ⟨w.heap.size + 1 + 1, 4, none⟩ (.slice A4 (j + 1) c4)) :=
    (Touch.of_grown hg4 fun b e => .inl e).setCell _ _ fun _ => .inr rfl
  have hlow : ∀ b, (blk (.slice Ar j cr) = some b ∨ b = w.heap.size + 1 + 1) → w.heap.size + 1 + 1 ≤ b := fun b hb => by
    rcases hb with hb | hb
    · have := (hown b hb).1; omega
    · omega
  have hk03 : Keeps w W3 := (h.keeps.trans ht30).trans hk3
  have hall : Keeps w (w4.setCell ⟨w.heap.size + 1 + 1, 4, none⟩ (.slice A4 (j + 1) c4)) :=
    Touch.nothing (F := fun b => w.heap.size ≤ b) ((Touch.of_below (F := fun b => w.heap.size ≤ b) hk03.below fun b hb h => h).trans htF fun b hb h => by have := hlow b h; omega) fun b hb h => by omega
  have hnb : blk (.slice A4 (j + 1) c4) ≠ some (w.heap.size + 1 + 1) := fun e => by have := (hnew _ e).1; omega
  refine ⟨by omega, by simp [h.len], by rw [hq]; congr 1, ?_, ?_, ?_, ?_, ?_, hall⟩
  · exact hl4.far hnb _
  · have hi3 : Items W3 (fun b => w.heap.size + 3 ≤ b ∧ blk (.slice Ar j cr) ≠ some b) xs vs := (h.items.below ht30.below).below hk3.below
    have hy3 : VaS W3 (fun b => w.heap.size + 3 ≤ b ∧ blk (.slice Ar j cr) ≠ some b) (.agg #[.int .i64 y.kind, .int .i64 y.int, .float .f64 y.fl, .string y.text, .slice A3 y.items.length c3]) y :=
      (hv3.later hk3.below).mono fun b _ hb => by
        have hb' : wr.heap.size ≤ b := hb
        exact ⟨by omega, fun e => by have := (hown b e).2; omega⟩
    have hall3 := hi3.snoc hy3
    have hm : Items W3 (fun b => w.heap.size + 3 ≤ b ∧ blk (.slice Ar j cr) ≠ some b ∧ blk (.slice A4 (j + 1) c4) ≠ some b) (xs ++ [.int .i64 y.kind, .int .i64 y.int, .float .f64 y.fl, .string y.text, .slice A3 y.items.length c3]) (vs ++ [y]) :=
      hall3.mono fun b hlt hb => ⟨hb.1, hb.2, fun e => by
        rcases ha4 with h4 | h4
        · rw [h4] at e; exact hb.2 e
        · rw [h4] at e; injection e with e; omega⟩
    exact (hm.touch htF fun b hb hF => by
      rcases hF with hF | hF
      · exact hb.2.1 hF
      · omega).mono fun b _ hb => ⟨hb.1, hb.2.2⟩
  · exact htF.obj (((ht30.trans hk3).below.block _ (by omega)).trans h.bt) fun hF => by have := hlow _ hF; omega
  · exact htF.obj (((ht30.trans hk3).below.block _ (by omega)).trans h.br) fun hF => by have := hlow _ hF; omega
  · exact obj_set hv4 4 _
theorem RMany.done {w : World} {k : Int} {s : Value} {f : Nat → Except Int (Va × Nat)} {many : Nat} {R : Except Int (List Va × Nat)} {j : Nat} {Ar : Option Addr} {cr : Nat} {wr : World} {a : Nat} {vs : List Va} {xs : List Value}
    (h : RMany w k s f many R j Ar cr wr a vs xs) (hlen : vs.length = j) (hj : j ≤ 256) {w' : World} (ht : Touch (At (w.heap.size + 1)) wr w') :
    RefValPost w (rList k (.ok (vs, a))) (.returned (.tuple #[.agg #[.int .i64 k, .int .i64 0, .float .f64 0, .string ⟨#[]⟩, .slice Ar j cr], .int .i64 (a : Int), .int .i64 0])) w' := by
  subst hlen
  obtain ⟨_, _, e1, hnc, hrow, hcm, _⟩ := h.own.form
  injection e1 with e1 e2 e3
  subst e1 e3
  have hown := h.own.lt
  refine ⟨_, rfl, ?_, Touch.nothing ((Touch.of_below (F := At (w.heap.size + 1)) h.keeps.below fun b hb h => absurd hb (by omega)).then ht) fun b hb h => by rw [At] at h; omega⟩
  have hv : VaS wr (fun b => w.heap.size + 3 ≤ b) (.agg #[.int .i64 k, .int .i64 0, .float .f64 0, .string ⟨#[]⟩, .slice Ar vs.length cr]) (.mk k 0 0 empty vs) := by
    refine VaS.of_items hrow (h.items.mono fun b _ hb => hb.1) (fun ad e hn => ?_) (by omega) _ _ _ _ _
    subst e
    have hp : 0 < vs.length := List.length_pos_iff.2 hn
    exact (hown ad.block (by unfold blk; simp; omega)).1
  exact (hv.touch ht fun b hb e => by rw [At] at e; omega).mono fun b _ hb => by omega
abbrev valW2 (w : World) (k : Int) (s : Value) : World := (w.alloc (.cells #[.int .i64 k, s] 97)).alloc (.cells #[.int .i64 0, .int .i64 0, .float .f64 0, .string ⟨#[]⟩, .slice none 0 0] 101)
theorem valW2_r (w : World) (k : Int) (s : Value) : (valW2 w k s).heap[w.heap.size + 1]? = some (.cells #[.int .i64 0, .int .i64 0, .float .f64 0, .string ⟨#[]⟩, .slice none 0 0] 101) := obj_new_at _ _ _ (by simp)
theorem valW2_keeps (w : World) (k : Int) (s : Value) : Keeps w (valW2 w k s) := ((Keeps.refl w).alloc _).alloc _
theorem res1_keeps {w w1 w' : World} (h : Keeps w w1) (h2 : Touch (At (w.heap.size + 1)) w1 w') : Keeps w w' :=
  Touch.nothing ((Touch.of_below (F := At (w.heap.size + 1)) h.below fun k hk hb => absurd hk (by omega)).then h2) fun k hk h => by rw [At] at h; omega
theorem set5 {w1 : World} {g : Nat} (u0 u1 u2 u3 u4 : Value) : Touch (At g) w1 (((((w1.setCell ⟨g, 0, none⟩ u0).setCell ⟨g, 1, none⟩ u1).setCell ⟨g, 2, none⟩ u2).setCell ⟨g, 3, none⟩ u3).setCell ⟨g, 4, none⟩ u4) :=
  (((((Touch.refl (At g) w1).set 0 u0).set 1 u1).set 2 u2).set 3 u3).set 4 u4
set_option maxRecDepth 10000 in
set_option maxHeartbeats 1000000 in
theorem refValueAt_one (k : Int) (h1 : 1 ≤ k) (h5 : k ≤ 5) (B : Option Addr) (nb cb : Nat) (A : Option Addr) (c : Nat) (l : List UInt8) (a : Nat) (w : World) (hl : l.length ≤ 140737488355328) (hcap : l.length ≤ c) (hr : Reads w A l) (ha : a ≤ l.length) (f : Nat → Except Int (Va × Nat)) :
    Calls Tryz.prog 161 #[.agg #[.int .i64 k, .slice B nb cb], .slice A l.length c, .int .i64 (a : Int)] w (RefValPost w (rKinds k f l a)) := by
  have hc := refScalar_calls k h1 h5 A c l a (valW2 w k (.slice B nb cb)) hl hcap (hr.below (valW2_keeps w _ _).below) ha f
  have q6 : (k != 6) = true := by rw [bne_iff_ne]; omega
  have q7 : (k != 7) = true := by rw [bne_iff_ne]; omega
  have HC := Lib.hid hc
  clear hc hr h1 h5
  generalize rKinds k f l a = R at *
  generalize l.length = L at *
  go_enter Tryz.func161, Tryz.ntmps161
  go_wp2_with fail
  refine HC.out.mono ?_
  rintro e w1 hpost
  cases R with
  | error er =>
    obtain ⟨rfl, hk1⟩ : _ ∧ _ := hpost
    have hb2 := (hk1.below.block _ (obj_lt (valW2_r w k (.slice B nb cb)))).trans (valW2_r w k (.slice B nb cb))
    obtain ⟨d0, d1, d2, d3, d4, z0, z1, z2, z3, z4⟩ := cells5 hb2
    have u3 := obj_lt hb2
    have HK := Lib.hid ((valW2_keeps w k (.slice B nb cb)).trans hk1)
    clear hk1 hb2 HC
    go_wp2
    refine bodyPost_ret (v := .tuple #[.agg #[.int .i64 0, .int .i64 0, .float .f64 0, .string ⟨#[]⟩, .slice none 0 0], .int .i64 0, .int .i64 er]) (by simp [results, Tryz.results161, go_sem, u3, d0, d1, d2, d3, d4]) rfl ?_
    exact ⟨rfl, res1_keeps HK.out (set5 _ _ _ _ _)⟩
  | ok r =>
    obtain ⟨t, j⟩ := r
    obtain ⟨v, rfl, hv, hk1⟩ : ∃ v, _ ∧ _ ∧ _ := hpost
    obtain ⟨A2, c2, rfl⟩ := hv.form
    have hb2 := (hk1.below.block _ (obj_lt (valW2_r w k (.slice B nb cb)))).trans (valW2_r w k (.slice B nb cb))
    obtain ⟨d0, d1, d2, d3, d4, z0, z1, z2, z3, z4⟩ := cells5 hb2
    have u3 := obj_lt hb2
    have HK := Lib.hid ((valW2_keeps w k (.slice B nb cb)).trans hk1)
    have HV := Lib.hid hv
    clear hk1 hb2 HC hv
    go_wp2
    refine bodyPost_ret (v := .tuple #[.agg #[.int .i64 t.kind, .int .i64 t.int, .float .f64 t.fl, .string t.text, .slice A2 t.items.length c2], .int .i64 (j : Int), .int .i64 0]) (by simp [results, Tryz.results161, go_sem, u3, d0, d1, d2, d3, d4]) rfl ?_
    refine ⟨_, rfl, (HV.out.touch (set5 (g := w.heap.size + 1) _ _ _ _ _) fun b hb e => ?_).mono fun b _ hb => ?_, res1_keeps HK.out (set5 _ _ _ _ _)⟩
    · have h2 : b = w.heap.size + 1 := e
      have h3 : (valW2 w k (.slice B nb cb)).heap.size = w.heap.size + 2 := by simp [valW2]
      omega
    · have h3 : (valW2 w k (.slice B nb cb)).heap.size = w.heap.size + 2 := by simp [valW2]
      omega
set_option maxRecDepth 10000 in
set_option maxHeartbeats 4000000 in
theorem refValueAt_six (n : Nat) (ih : RefReadV n) (t : Ty) (d : Nat) (B : Option Addr) (cb : Nat) (A : Option Addr) (c : Nat) (l : List UInt8) (a : Nat) (w : World) (hn : SizeOf.sizeOf t < n) (htc : tyCheck t d = 0) (hty : TyAt w (.agg #[.int .i64 6, .slice B 1 cb]) (.mk 6 [t])) (hl : l.length ≤ 140737488355328) (hcap : l.length ≤ c) (hr : Reads w A l) (ha : a ≤ l.length) :
    Calls Tryz.prog 161 #[.agg #[.int .i64 6, .slice B 1 cb], .slice A l.length c, .int .i64 (a : Int)] w (RefValPost w (rKinds 6 (rValue t l) l a)) := by
  have hp : rKinds 6 (rValue t l) l a = (match rBit l a with | .error e => .error e | .ok (x, j) => rList 6 (rMany (rValue t l) x j [])) := rfl
  have hr0 : Reads (valW2 w 6 (.slice B 1 cb)) A l := hr.below (valW2_keeps w _ _).below
  have hc := refBit_calls A c l a (valW2 w 6 (.slice B 1 cb)) hl hr0 ha
  rw [bitAt_eq] at hc
  have HRW := Lib.hid hr
  have HTY := Lib.hid hty
  have HN := Lib.hid hn
  have HTC := Lib.hid htc
  have IH := Lib.hid ih
  cases hb : rBit l a with
  | error er =>
    rw [hb] at hp
    try simp only at hp
    rw [hp]
    try rw [hb] at hc
    have HC := Lib.hid hc
    have qe : (er != 0) = true := by rcases rBit_err hb with h | h <;> rw [h] <;> rfl
    clear hp hb hr0 hc hr hty hn htc ih IH
    generalize l.length = L at *
    go_enter Tryz.func161, Tryz.ntmps161
    go_wp2_with fail
    refine HC.out.mono ?_
    rintro e w1 ⟨rfl, rfl⟩
    simp only [bitOut]
    have hb2 := valW2_r w 6 (.slice B 1 cb)
    obtain ⟨d0, d1, d2, d3, d4, z0, z1, z2, z3, z4⟩ := cells5 hb2
    have u3 := obj_lt hb2
    clear hb2 HC
    go_wp2
    refine bodyPost_ret (v := .tuple #[.agg #[.int .i64 0, .int .i64 0, .float .f64 0, .string ⟨#[]⟩, .slice none 0 0], .int .i64 0, .int .i64 er]) (by simp [results, Tryz.results161, go_sem, u3, d0, d1, d2, d3, d4]) rfl ?_
    exact ⟨rfl, ((Keeps.refl w).alloc _).alloc _⟩
  | ok r =>
    obtain ⟨x, j⟩ := r
    rw [hb] at hp
    try simp only at hp
    try rw [hb] at hc
    have hx := rBit_lt hb
    have hjL : j ≤ l.length := by
      have h := (rBit_cut hb).1
      exact h.le (by simp)
    have HC := Lib.hid hc
    generalize hRR : rKinds 6 (rValue t l) l a = R at hp ⊢
    generalize hQ : rMany (rValue t l) x j [] = Q at hp
    have HRR := Lib.hid hp
    have HQ := Lib.hid hQ.symm
    clear hRR hp hQ hb hr0 hc hr hty hn htc ih ha
    generalize hLL : l.length = L at *
    have HL := Lib.hid hLL
    clear hLL
    go_enter Tryz.func161, Tryz.ntmps161
    go_wp2_with fail
    refine HC.out.mono ?_
    rintro e w1 ⟨rfl, rfl⟩
    simp only [bitOut]
    have hrel0 : RMany w 6 (.slice B 1 cb) (rValue t l) x Q 0 none 0 (valW w 6 (.slice B 1 cb)) j [] [] :=
      ⟨by omega, rfl, HQ.out, Loose.empty _ _ _ _ none, Items.nil _ _, valW_t w 6 _, valW_r w 6 _, valW_v w 6 _, valW_keeps w 6 _⟩
    have HR0 := Lib.hid hrel0
    clear hrel0 HC HQ
    go_wp2_with fail
    go_loopw [10, 14] (fun nx i wr => ∃ (j : Nat) (Ar : Option Addr) (cr a : Nat) (vs : List Va) (xs : List Value), i = .int .i64 (j : Int) ∧ nx = .int .i64 (a : Int) ∧ a ≤ L ∧ RMany w 6 (.slice B 1 cb) (rValue t l) x Q j Ar cr wr a vs xs) (fun _ i _ => x - (intOf i).toNat)
    case atStart => exact ⟨0, none, 0, j, [], [], rfl, rfl, hjL, HR0.out⟩
    case round =>
      clear HR0 hjL
      obtain ⟨j, Ar, cr, a, vs, xs, rfl, rfl, haL, hrel⟩ := hrel
      by_cases hlt : j < x
      · obtain ⟨ad, k', s', rfl, hgad, x1, x2, hsub⟩ := (TyS.of_at (HTY.out.later hrel.keeps.below)).elem
        obtain ⟨A2, c2, n2, rfl⟩ : ∃ A2 c2 n2, s' = Value.slice A2 n2 c2 := by
          obtain ⟨A2, c2, e⟩ := hsub.form
          simp only [Value.agg.injEq, Array.mk.injEq, List.cons.injEq] at e
          exact ⟨A2, c2, _, e.2.1⟩
        have hc := IH.out t d _ A c l a wr HN.out HTC.out hsub.at (by rw [HL.out]; exact hl) (by rw [HL.out]; exact hcap) (HRW.out.below hrel.keeps.below) (by rw [HL.out]; exact haL)
        rw [HL.out] at hc
        have hres := hrel.res
        obtain ⟨t0, t1, _, _⟩ := cells2 hrel.bt
        obtain ⟨d0, d1, d2, d3, d4, z0, z1, z2, z3, z4⟩ := cells5 hrel.br
        have u3 := obj_lt hrel.bv
        have HREL := Lib.hid hrel
        clear hsub hrel
        cases hq : rValue t l a with
        | error er =>
          rw [hq] at hc
          rw [rMany_error hq (by omega)] at hres
          have hd4 : d ≤ 4 := by have h := HTC.out; cases t with | mk k ts => exact (tyCheck_ok h).1
          have qe : (er != 0) = true := by simpa using rValue_err (5 - d) t d (by omega) HTC.out l a er hq
          have HC := Lib.hid hc
          have HE : Hid (R = .error er) := Lib.hid (by rw [HRR.out, hres]; rfl)
          clear hc hres hq HRR IH hd4
          go_wp2_with fail
          refine HC.out.mono ?_
          rintro e w3 ⟨rfl, hk3⟩
          have hb3 := (hk3.below.block _ (obj_lt HREL.out.br)).trans HREL.out.br
          have HK3 := Lib.hid (HREL.out.keeps.trans hk3)
          clear d0 d1 d2 d3 d4 z0 z1 z2 z3 z4 u3
          obtain ⟨d0, d1, d2, d3, d4, z0, z1, z2, z3, z4⟩ := cells5 hb3
          have u3 := obj_lt hb3
          clear hb3 hk3 HC
          go_wp2
          refine bodyPost_ret (v := .tuple #[.agg #[.int .i64 0, .int .i64 0, .float .f64 0, .string ⟨#[]⟩, .slice none 0 0], .int .i64 0, .int .i64 er]) (by simp [results, Tryz.results161, go_sem, u3, d0, d1, d2, d3, d4]) rfl ?_
          rw [HE.out]
          exact ⟨rfl, res1_keeps HK3.out ((set5 _ _ _ _ _).alloc _)⟩
        | ok r =>
          obtain ⟨y, k2⟩ := r
          have hk2L : k2 ≤ L := by rw [← HL.out]; exact rValue_le HTC.out hq
          rw [hq] at hc
          rw [rMany_ok hq (by omega)] at hres
          have HC := Lib.hid hc
          have HRES := Lib.hid hres
          clear hc hres hq IH
          go_wp2_with fail
          refine HC.out.mono ?_
          rintro e w3 ⟨v3, rfl, hv3, hk3⟩
          obtain ⟨A3, c3, rfl⟩ := hv3.form
          have hb3 := (hk3.below.block _ (obj_lt HREL.out.bv)).trans HREL.out.bv
          obtain ⟨e0, e1, e2, e3, e4, y0, y1, y2, y3, y4⟩ := cells5 hb3
          have u4 := obj_lt hb3
          obtain ⟨W4, hW4⟩ : ∃ W4, W4 = (w3.alloc (.cells #[.int .i64 y.kind, .int .i64 y.int, .float .f64 y.fl, .string y.text, .slice A3 y.items.length c3] 101)).alloc (.cells #[.int .i64 y.kind, .int .i64 y.int, .float .f64 y.fl, .string y.text, .slice A3 y.items.length c3] 101) := ⟨_, rfl⟩
          have hk4 : Keeps w3 W4 := by rw [hW4]; exact ((Keeps.refl w3).alloc _).alloc _
          have hrow4 : RowAt W4 (some ⟨w3.heap.size + 1, 0, none⟩) [.int .i64 y.kind, .int .i64 y.int, .float .f64 y.fl, .string y.text, .slice A3 y.items.length c3] := by rw [hW4]; exact RowAt.new_at _ _ _ _ _ rfl _ (by simp)
          have hb4 := (hk4.below.block _ (obj_lt hb3)).trans hb3
          have HOW := Lib.hid ((HREL.out.own.below hk3.below).below hk4.below)
          have HROW := Lib.hid hrow4
          have HB4 := Lib.hid hb4
          have HV3 := Lib.hid hv3
          have HK3 := Lib.hid hk3
          have HK4 := Lib.hid hk4
          have HW4 := Lib.hid hW4
          clear hk3 hk4 hrow4 hb3 hb4 hv3 hW4 HC d0 d1 d2 d3 d4 z0 z1 z2 z3 z4 u3
          go_wp2_with (at_builtin; rw [← HW4.out]; refine wpList_append_rows (w.heap.size + 3) (by rfl) _ _ 99 101 (.agg #[.int .i64 0, .int .i64 0, .float .f64 0, .string ⟨#[]⟩, .slice none 0 0]) 5 64 (by rfl) Tryz.underlying99 info_value rfl (by omega) (.slice Ar j cr) j xs (by rfl) HOW.out (some ⟨w3.heap.size + 1, 0, none⟩) 1 1 [.int .i64 y.kind, .int .i64 y.int, .float .f64 y.fl, .string y.text, .slice A3 y.items.length c3] (by rfl) (by rfl) HROW.out (by simp [Value.oneCell']) (by simp only [maxLen]; omega) (by omega) (by have h1 := HREL.out.bv; have h2 := obj_lt h1; have h3 := HK3.out.size; have h4 := HK4.out.size; omega) ?_)
          intro v5 w5 hl5 hg5 hat5
          obtain ⟨A5, c5, rfl, _⟩ := hl5.form
          have hv5 := (hg5.block (w.heap.size + 1 + 1) (obj_lt HB4.out) (fun e => by have := (HOW.out.lt _ e.symm).1; omega)).trans HB4.out
          clear e0 e1 e2 e3 e4 y0 y1 y2 y3 y4 u4
          obtain ⟨g0, g1, g2, g3, g4, _, _, _, _, w4z⟩ := cells5 hv5
          have u5 := obj_lt hv5
          have HV5 := Lib.hid hv5; have HL5 := Lib.hid hl5; have HG5 := Lib.hid hg5; have HA5 := Lib.hid hat5
          clear hv5 hl5 hg5 hat5
          go_wp2
          exact ⟨⟨j + 1, A5, c5, k2, vs ++ [y], _, by go_num, rfl, hk2L, HREL.out.step hlt HRES.out HV3.out HK3.out HK4.out HL5.out HG5.out HA5.out HV5.out⟩, by simp [intOf]; omega⟩
      · have ej : j = x := by have := hrel.le; omega
        subst ej
        have hq := hrel.res
        rw [Nat.sub_self, rMany] at hq
        have hv := hrel.len
        obtain ⟨d0, d1, d2, d3, d4, z0, z1, z2, z3, z4⟩ := cells5 hrel.br
        obtain ⟨e0, e1, e2, e3, e4, y0, y1, y2, y3, y4⟩ := cells5 hrel.bv
        have u3 := obj_lt hrel.bv
        have HREL := Lib.hid hrel
        have HQ := Lib.hid hq
        have HV := Lib.hid hv
        clear hrel hq hv IH
        go_wp2
        refine bodyPost_ret (v := .tuple #[.agg #[.int .i64 6, .int .i64 0, .float .f64 0, .string ⟨#[]⟩, .slice Ar j cr], .int .i64 (a : Int), .int .i64 0]) (by simp [results, Tryz.results161, go_sem, u3, d0, d1, d2, d3, d4, e0, e1, e2, e3, e4]) rfl ?_
        rw [HRR.out, HQ.out]
        exact HREL.out.done HV.out (by omega) (set5 _ _ _ _ _)
set_option maxRecDepth 10000 in
set_option maxHeartbeats 4000000 in
theorem refValueAt_seven (n : Nat) (ih : RefReadV n) (t : Ty) (d : Nat) (B : Option Addr) (cb : Nat) (A : Option Addr) (c : Nat) (l : List UInt8) (a : Nat) (w : World) (hn : SizeOf.sizeOf t < n) (htc : tyCheck t d = 0) (hty : TyAt w (.agg #[.int .i64 7, .slice B 1 cb]) (.mk 7 [t])) (hl : l.length ≤ 140737488355328) (hcap : l.length ≤ c) (hr : Reads w A l) (ha : a ≤ l.length) :
    Calls Tryz.prog 161 #[.agg #[.int .i64 7, .slice B 1 cb], .slice A l.length c, .int .i64 (a : Int)] w (RefValPost w (rKinds 7 (rValue t l) l a)) := by
  have hp : rKinds 7 (rValue t l) l a = (match lebGet l a with | .error e => .error e | .ok (n, j) => if n ≤ 256 then rList 7 (rMany (rValue t l) n j []) else .error 3) := rfl
  have hr0 : Reads (valW2 w 7 (.slice B 1 cb)) A l := hr.below (valW2_keeps w _ _).below
  have hc := ref3Get_calls A c l a (valW2 w 7 (.slice B 1 cb)) hl hr0 ha
  have HRW := Lib.hid hr
  have HTY := Lib.hid hty
  have HN := Lib.hid hn
  have HTC := Lib.hid htc
  have IH := Lib.hid ih
  cases hb : lebGet l a with
  | error er =>
    rw [hb] at hp
    try simp only at hp
    rw [hp]
    try rw [hb] at hc
    have HC := Lib.hid hc
    have qe : (er != 0) = true := by simpa using lebGet_err hb
    have qf : (er == 0) = false := by simpa using lebGet_err hb
    clear hp hb hr0 hc hr hty hn htc ih IH
    generalize l.length = L at *
    go_enter Tryz.func161, Tryz.ntmps161
    go_wp2_with fail
    refine HC.out.mono ?_
    rintro e w1 ⟨rfl, rfl⟩
    simp only [getOut]
    have hb2 := valW2_r w 7 (.slice B 1 cb)
    obtain ⟨d0, d1, d2, d3, d4, z0, z1, z2, z3, z4⟩ := cells5 hb2
    have u3 := obj_lt hb2
    clear hb2 HC
    go_wp2
    refine bodyPost_ret (v := .tuple #[.agg #[.int .i64 0, .int .i64 0, .float .f64 0, .string ⟨#[]⟩, .slice none 0 0], .int .i64 0, .int .i64 er]) (by simp [results, Tryz.results161, go_sem, u3, d0, d1, d2, d3, d4]) rfl ?_
    exact ⟨rfl, ((Keeps.refl w).alloc _).alloc _⟩
  | ok r =>
    obtain ⟨x, j⟩ := r
    rw [hb] at hp
    try simp only at hp
    try rw [hb] at hc
    have hx64 := lebGet_num hb
    have hjL := lebGet_le ha hb
    have HC := Lib.hid hc
    by_cases hx : x ≤ 256
    · rw [if_pos hx] at hp
      have qg : decide ((256 : Int) < (x : Int)) = false := by rw [decide_eq_false_iff_not]; omega
      generalize hRR : rKinds 7 (rValue t l) l a = R at hp ⊢
      generalize hQ : rMany (rValue t l) x j [] = Q at hp
      have HRR := Lib.hid hp
      have HQ := Lib.hid hQ.symm
      clear hRR hp hQ hb hr0 hc hr hty hn htc ih ha
      generalize hLL : l.length = L at *
      have HL := Lib.hid hLL
      clear hLL
      go_enter Tryz.func161, Tryz.ntmps161
      go_wp2_with fail
      refine HC.out.mono ?_
      rintro e w1 ⟨rfl, rfl⟩
      simp only [getOut]
      have hrel0 : RMany w 7 (.slice B 1 cb) (rValue t l) x Q 0 none 0 (valW w 7 (.slice B 1 cb)) j [] [] :=
        ⟨by omega, rfl, HQ.out, Loose.empty _ _ _ _ none, Items.nil _ _, valW_t w 7 _, valW_r w 7 _, valW_v w 7 _, valW_keeps w 7 _⟩
      have HR0 := Lib.hid hrel0
      clear hrel0 HC HQ
      go_wp2_with fail
      go_loopw [10, 14] (fun nx i wr => ∃ (j : Nat) (Ar : Option Addr) (cr a : Nat) (vs : List Va) (xs : List Value), i = .int .i64 (j : Int) ∧ nx = .int .i64 (a : Int) ∧ a ≤ L ∧ RMany w 7 (.slice B 1 cb) (rValue t l) x Q j Ar cr wr a vs xs) (fun _ i _ => x - (intOf i).toNat)
      case atStart => exact ⟨0, none, 0, j, [], [], rfl, rfl, hjL, HR0.out⟩
      case round =>
        clear HR0 hjL
        obtain ⟨j, Ar, cr, a, vs, xs, rfl, rfl, haL, hrel⟩ := hrel
        by_cases hlt : j < x
        · obtain ⟨ad, k', s', rfl, hgad, x1, x2, hsub⟩ := (TyS.of_at (HTY.out.later hrel.keeps.below)).elem
          obtain ⟨A2, c2, n2, rfl⟩ : ∃ A2 c2 n2, s' = Value.slice A2 n2 c2 := by
            obtain ⟨A2, c2, e⟩ := hsub.form
            simp only [Value.agg.injEq, Array.mk.injEq, List.cons.injEq] at e
            exact ⟨A2, c2, _, e.2.1⟩
          have hc := IH.out t d _ A c l a wr HN.out HTC.out hsub.at (by rw [HL.out]; exact hl) (by rw [HL.out]; exact hcap) (HRW.out.below hrel.keeps.below) (by rw [HL.out]; exact haL)
          rw [HL.out] at hc
          have hres := hrel.res
          obtain ⟨t0, t1, _, _⟩ := cells2 hrel.bt
          obtain ⟨d0, d1, d2, d3, d4, z0, z1, z2, z3, z4⟩ := cells5 hrel.br
          have u3 := obj_lt hrel.bv
          have HREL := Lib.hid hrel
          clear hsub hrel
          cases hq : rValue t l a with
          | error er =>
            rw [hq] at hc
            rw [rMany_error hq (by omega)] at hres
            have hd4 : d ≤ 4 := by have h := HTC.out; cases t with | mk k ts => exact (tyCheck_ok h).1
            have qe : (er != 0) = true := by simpa using rValue_err (5 - d) t d (by omega) HTC.out l a er hq
            have HC := Lib.hid hc
            have HE : Hid (R = .error er) := Lib.hid (by rw [HRR.out, hres]; rfl)
            clear hc hres hq HRR IH hd4
            go_wp2_with fail
            refine HC.out.mono ?_
            rintro e w3 ⟨rfl, hk3⟩
            have hb3 := (hk3.below.block _ (obj_lt HREL.out.br)).trans HREL.out.br
            have HK3 := Lib.hid (HREL.out.keeps.trans hk3)
            clear d0 d1 d2 d3 d4 z0 z1 z2 z3 z4 u3
            obtain ⟨d0, d1, d2, d3, d4, z0, z1, z2, z3, z4⟩ := cells5 hb3
            have u3 := obj_lt hb3
            clear hb3 hk3 HC
            go_wp2
            refine bodyPost_ret (v := .tuple #[.agg #[.int .i64 0, .int .i64 0, .float .f64 0, .string ⟨#[]⟩, .slice none 0 0], .int .i64 0, .int .i64 er]) (by simp [results, Tryz.results161, go_sem, u3, d0, d1, d2, d3, d4]) rfl ?_
            rw [HE.out]
            exact ⟨rfl, res1_keeps HK3.out ((set5 _ _ _ _ _).alloc _)⟩
          | ok r =>
            obtain ⟨y, k2⟩ := r
            have hk2L : k2 ≤ L := by rw [← HL.out]; exact rValue_le HTC.out hq
            rw [hq] at hc
            rw [rMany_ok hq (by omega)] at hres
            have HC := Lib.hid hc
            have HRES := Lib.hid hres
            clear hc hres hq IH
            go_wp2_with fail
            refine HC.out.mono ?_
            rintro e w3 ⟨v3, rfl, hv3, hk3⟩
            obtain ⟨A3, c3, rfl⟩ := hv3.form
            have hb3 := (hk3.below.block _ (obj_lt HREL.out.bv)).trans HREL.out.bv
            obtain ⟨e0, e1, e2, e3, e4, y0, y1, y2, y3, y4⟩ := cells5 hb3
            have u4 := obj_lt hb3
            obtain ⟨W4, hW4⟩ : ∃ W4, W4 = (w3.alloc (.cells #[.int .i64 y.kind, .int .i64 y.int, .float .f64 y.fl, .string y.text, .slice A3 y.items.length c3] 101)).alloc (.cells #[.int .i64 y.kind, .int .i64 y.int, .float .f64 y.fl, .string y.text, .slice A3 y.items.length c3] 101) := ⟨_, rfl⟩
            have hk4 : Keeps w3 W4 := by rw [hW4]; exact ((Keeps.refl w3).alloc _).alloc _
            have hrow4 : RowAt W4 (some ⟨w3.heap.size + 1, 0, none⟩) [.int .i64 y.kind, .int .i64 y.int, .float .f64 y.fl, .string y.text, .slice A3 y.items.length c3] := by rw [hW4]; exact RowAt.new_at _ _ _ _ _ rfl _ (by simp)
            have hb4 := (hk4.below.block _ (obj_lt hb3)).trans hb3
            have HOW := Lib.hid ((HREL.out.own.below hk3.below).below hk4.below)
            have HROW := Lib.hid hrow4
            have HB4 := Lib.hid hb4
            have HV3 := Lib.hid hv3
            have HK3 := Lib.hid hk3
            have HK4 := Lib.hid hk4
            have HW4 := Lib.hid hW4
            clear hk3 hk4 hrow4 hb3 hb4 hv3 hW4 HC d0 d1 d2 d3 d4 z0 z1 z2 z3 z4 u3
            go_wp2_with (at_builtin; rw [← HW4.out]; refine wpList_append_rows (w.heap.size + 3) (by rfl) _ _ 99 101 (.agg #[.int .i64 0, .int .i64 0, .float .f64 0, .string ⟨#[]⟩, .slice none 0 0]) 5 64 (by rfl) Tryz.underlying99 info_value rfl (by omega) (.slice Ar j cr) j xs (by rfl) HOW.out (some ⟨w3.heap.size + 1, 0, none⟩) 1 1 [.int .i64 y.kind, .int .i64 y.int, .float .f64 y.fl, .string y.text, .slice A3 y.items.length c3] (by rfl) (by rfl) HROW.out (by simp [Value.oneCell']) (by simp only [maxLen]; omega) (by omega) (by have h1 := HREL.out.bv; have h2 := obj_lt h1; have h3 := HK3.out.size; have h4 := HK4.out.size; omega) ?_)
            intro v5 w5 hl5 hg5 hat5
            obtain ⟨A5, c5, rfl, _⟩ := hl5.form
            have hv5 := (hg5.block (w.heap.size + 1 + 1) (obj_lt HB4.out) (fun e => by have := (HOW.out.lt _ e.symm).1; omega)).trans HB4.out
            clear e0 e1 e2 e3 e4 y0 y1 y2 y3 y4 u4
            obtain ⟨g0, g1, g2, g3, g4, _, _, _, _, w4z⟩ := cells5 hv5
            have u5 := obj_lt hv5
            have HV5 := Lib.hid hv5; have HL5 := Lib.hid hl5; have HG5 := Lib.hid hg5; have HA5 := Lib.hid hat5
            clear hv5 hl5 hg5 hat5
            go_wp2
            exact ⟨⟨j + 1, A5, c5, k2, vs ++ [y], _, by go_num, rfl, hk2L, HREL.out.step hlt HRES.out HV3.out HK3.out HK4.out HL5.out HG5.out HA5.out HV5.out⟩, by simp [intOf]; omega⟩
        · have ej : j = x := by have := hrel.le; omega
          subst ej
          have hq := hrel.res
          rw [Nat.sub_self, rMany] at hq
          have hv := hrel.len
          obtain ⟨d0, d1, d2, d3, d4, z0, z1, z2, z3, z4⟩ := cells5 hrel.br
          obtain ⟨e0, e1, e2, e3, e4, y0, y1, y2, y3, y4⟩ := cells5 hrel.bv
          have u3 := obj_lt hrel.bv
          have HREL := Lib.hid hrel
          have HQ := Lib.hid hq
          have HV := Lib.hid hv
          clear hrel hq hv IH
          go_wp2
          refine bodyPost_ret (v := .tuple #[.agg #[.int .i64 7, .int .i64 0, .float .f64 0, .string ⟨#[]⟩, .slice Ar j cr], .int .i64 (a : Int), .int .i64 0]) (by simp [results, Tryz.results161, go_sem, u3, d0, d1, d2, d3, d4, e0, e1, e2, e3, e4]) rfl ?_
          rw [HRR.out, HQ.out]
          exact HREL.out.done HV.out (by omega) (set5 _ _ _ _ _)
    · rw [if_neg hx] at hp
      rw [hp]
      have qg : decide ((256 : Int) < (x : Int)) = true := by rw [decide_eq_true_eq]; omega
      clear hx
      clear hp hb hr0 hc hr hty hn htc ih IH
      generalize l.length = L at *
      go_enter Tryz.func161, Tryz.ntmps161
      go_wp2_with fail
      refine HC.out.mono ?_
      rintro e w1 ⟨rfl, rfl⟩
      simp only [getOut]
      have hb2 := valW2_r w 7 (.slice B 1 cb)
      obtain ⟨d0, d1, d2, d3, d4, z0, z1, z2, z3, z4⟩ := cells5 hb2
      have u3 := obj_lt hb2
      clear hb2 HC
      go_wp2
      refine bodyPost_ret (v := .tuple #[.agg #[.int .i64 0, .int .i64 0, .float .f64 0, .string ⟨#[]⟩, .slice none 0 0], .int .i64 0, .int .i64 3]) (by simp [results, Tryz.results161, go_sem, u3, d0, d1, d2, d3, d4]) rfl ?_
      exact ⟨rfl, ((Keeps.refl w).alloc _).alloc _⟩
theorem refValueAt_calls (n : Nat) : RefReadV n := by
  induction n with
  | zero => intro t d v A c l a w hn; exact absurd hn (by omega)
  | succ n ih =>
    intro t d v A c l a w hn htc hty hl hcap hr ha
    obtain ⟨B, cb, rfl⟩ := hty.form
    cases t with
    | mk k ts =>
      obtain ⟨_, h1, h7, h67, hno⟩ := tyCheck_ok htc
      rw [rValue]
      by_cases hk : k = 6 ∨ k = 7
      · obtain ⟨t, rfl, ht⟩ := h67 hk
        have hsz : SizeOf.sizeOf t < n := by
          simp only [Ty.mk.sizeOf_spec, List.cons.sizeOf_spec, List.nil.sizeOf_spec] at hn
          omega
        have hf : rHead [t] l = rValue t l := by funext b; rw [rHead]
        rw [hf]
        rcases hk with rfl | rfl
        · exact refValueAt_six n ih t (d + 1) B cb A c l a w hsz ht hty hl hcap hr ha
        · exact refValueAt_seven n ih t (d + 1) B cb A c l a w hsz ht hty hl hcap hr ha
      · exact refValueAt_one k h1 (by omega) B ts.length cb A c l a w hl hcap hr ha _
end Go.Proofs.YtihodcnnappkbaaGreatDoor
