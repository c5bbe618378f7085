/-
  The walk of the reference's Name. No condition. The walk of the reference's Find of a schema. Condition: the slice stands for columns. The walk of the reference's readColumn. Condition: the bytes read, the row has room for them, the slice stands for columns. The walk of the reference's Decode of a schema. Condition: the bytes read, the row has room for them.
-/
import Derived.Test.YtihodcnnappkbaaGreatDoorG2
import Derived.Test.YtihodcnnappkbaaGreatDoorG3
import Derived.Test.YtihodcnnappkbaaGreatDoorG4
import Derived.Test.YtihodcnnappkbaaGreatDoorG22
import Derived.Test.YtihodcnnappkbaaGreatDoorG9
namespace Go.Proofs.YtihodcnnappkbaaGreatDoor
open Go.RowKit Go.Proofs
set_option linter.unusedVariables false
set_option linter.unusedSimpArgs false
theorem nameTo_first {s : ByteArray} (h0 : 0 < s.size) (h : ¬ (97 ≤ (s.get! 0).toNat ∧ (s.get! 0).toNat ≤ 122)) : nameTo s s.size = false := by
  refine nameTo_cut (n := 1) (by omega) ?_
  rw [nameTo_succ, nameTo_zero, Bool.true_and]
  exact nameB_false (by omega)
set_option maxRecDepth 20000 in
set_option maxHeartbeats 1000000 in
theorem refName_calls (s : ByteArray) (w : World) :
    Calls Tryz.prog 139 #[.string s] w fun e w' => e = .returned (.bool (nameOk s)) ∧ w = w' := by
  obtain ⟨n, hn⟩ : ∃ n, n = s.size := ⟨_, rfl⟩
  by_cases h0 : 0 < n
  · by_cases h1 : n ≤ 16
    · have hyes : nameOk s = nameTo s n := by unfold nameOk; rw [← hn]; simp [h0, h1]
      have hg0 : s.get! 0 = s[0]'(by omega) := get_at s 0 (by omega)
      have hs0 : 0 < s.size := by omega
      rw [hyes]
      by_cases hA : 97 ≤ (s[0]'hs0).toNat
      · by_cases hB : (s[0]'hs0).toNat ≤ 122
        · have hAi : (97 : Int) ≤ ((s[0]'hs0).toNat : Int) := by omega
          have hBi : ¬ (122 : Int) < ((s[0]'hs0).toNat : Int) := by omega
          have HN := Lib.hid hn
          have HA := Lib.hid hA
          have HB := Lib.hid hB
          rw [hn] at h0 h1 ⊢
          clear hyes hg0 hA hB hn
          go_enter Tryz.func139, Tryz.ntmps139
          go_wp2_with fail
          clear hAi hBi
          go_loopw [3] (fun i wr => ∃ k : Nat, k ≤ s.size ∧ i = .int .i64 (k : Int) ∧ nameTo s k = true ∧ wr = w) (fun i _ => s.size - (intOf i).toNat)
          case atStart => exact ⟨0, by omega, rfl, rfl, rfl⟩
          case round =>
            obtain ⟨k, hk, rfl, hto, rfl⟩ := hrel
            by_cases hp : k < s.size
            · have hsucc := nameTo_succ s k
              have hg : s.get! k = s[k]'hp := get_at s k hp
              rw [hto, Bool.true_and, hg] at hsucc
              have hfirst : k = 0 → 97 ≤ (s[k]'hp).toNat ∧ (s[k]'hp).toNat ≤ 122 := fun h => by subst h; exact ⟨HA.out, HB.out⟩
              have HF := Lib.hid hfirst
              have HTO := Lib.hid hto
              have HS := Lib.hid hsucc
              clear hto hsucc hg hfirst
              obtain ⟨b1, q1⟩ : ∃ b, decide (((s[k]'hp).toNat : Int) < 97) = b := ⟨_, rfl⟩
              obtain ⟨b2, q2⟩ : ∃ b, decide ((122 : Int) < ((s[k]'hp).toNat : Int)) = b := ⟨_, rfl⟩
              obtain ⟨b3, q3⟩ : ∃ b, decide (((s[k]'hp).toNat : Int) < 48) = b := ⟨_, rfl⟩
              obtain ⟨b4, q4⟩ : ∃ b, decide ((57 : Int) < ((s[k]'hp).toNat : Int)) = b := ⟨_, rfl⟩
              obtain ⟨b5, q5⟩ : ∃ b, (((s[k]'hp).toNat : Int) != 95) = b := ⟨_, rfl⟩
              cases b1 <;> cases b2 <;> cases b3 <;> cases b4 <;> cases b5
              all_goals try (exfalso; simp only [decide_eq_true_eq, decide_eq_false_iff_not, beq_iff_eq, bne_iff_ne, beq_eq_false_iff_ne, bne_eq_false_iff_eq, ne_eq] at q1 q2 q3 q4 q5; omega)
              all_goals go_wp2
              all_goals first
                | (go_ret
                   refine ⟨ret_bool ?_, rfl⟩
                   refine (nameTo_cut (n := k + 1) (by omega) ?_).symm
                   rw [HS.out]
                   simp only [decide_eq_true_eq, decide_eq_false_iff_not, beq_iff_eq, bne_iff_ne, beq_eq_false_iff_ne, bne_eq_false_iff_eq, ne_eq] at q1 q2 q3 q4 q5
                   exact nameB_false (by omega))
                | (refine ⟨⟨k + 1, by omega, by go_num, ?_, trivial⟩, by simp [intOf]; omega⟩
                   rw [HS.out]
                   simp only [decide_eq_true_eq, decide_eq_false_iff_not, beq_iff_eq, bne_iff_ne, beq_eq_false_iff_ne, bne_eq_false_iff_eq, ne_eq] at q1 q2 q3 q4 q5
                   have := HF.out
                   exact nameB_true (by omega))
            · obtain rfl : k = s.size := by omega
              have HTO := Lib.hid hto
              clear hto
              go_wp2
              go_ret
              exact ⟨ret_bool HTO.out.symm, rfl⟩
        · have hf := nameTo_first hs0 (by rw [hg0]; omega)
          rw [hn, hf]
          have hAi : (97 : Int) ≤ ((s[0]'hs0).toNat : Int) := by omega
          have hBi : (122 : Int) < ((s[0]'hs0).toNat : Int) := by omega
          rw [hn] at h0 h1
          clear hyes hg0 hA hB hf hn
          go_enter Tryz.func139, Tryz.ntmps139
          go_wp2
          go_ret
          exact ⟨rfl, rfl⟩
      · have hf := nameTo_first hs0 (by rw [hg0]; omega)
        rw [hn, hf]
        have hAi : ((s[0]'hs0).toNat : Int) < 97 := by omega
        rw [hn] at h0 h1
        clear hyes hg0 hA hf hn
        go_enter Tryz.func139, Tryz.ntmps139
        go_wp2
        go_ret
        exact ⟨rfl, rfl⟩
    · have hno : nameOk s = false := by unfold nameOk; rw [← hn]; simp [h1]
      have HN := Lib.hid hno
      rw [hno]
      clear hno
      go_enter Tryz.func139, Tryz.ntmps139
      go_wp2
      go_ret
      exact ⟨rfl, rfl⟩
  · have hno : nameOk s = false := by unfold nameOk; rw [← hn]; simp [h0]
    rw [hno]
    clear hno
    go_enter Tryz.func139, Tryz.ntmps139
    go_wp2
    go_ret
    exact ⟨rfl, rfl⟩
end Go.Proofs.YtihodcnnappkbaaGreatDoor
namespace Go.Proofs.YtihodcnnappkbaaGreatDoor
open Go.RowKit Go.BigFrame
set_option linter.unusedVariables false
set_option linter.unusedSimpArgs false
attribute [local go_sem] run_store_float
set_option maxRecDepth 20000 in
set_option maxHeartbeats 1000000 in
theorem refFind_calls (A : Option Addr) (c : Nat) (S : Nat → Prop) (l : List Col) (nm : ByteArray) (w : World) (hs : SchS w S A l) :
    Calls Tryz.prog 158 #[.agg #[.slice A l.length c], .string nm] w fun e w' => e = .returned (.tuple #[.int .i64 (((findCol l nm).1 : Nat) : Int), .bool (findCol l nm).2]) ∧ Keeps w w' := by
  have hlen := hs.len
  generalize hL : l.length = L at hlen ⊢
  generalize hR : findCol l nm = R
  have HL := Lib.hid hL
  have HR := Lib.hid hR.symm
  have HS := Lib.hid hs
  clear hs hL hR
  obtain ⟨W, hW⟩ : ∃ W, W = w.alloc (.cells #[.slice A L c] 30) := ⟨_, rfl⟩
  have hk0 : Keeps w W := by rw [hW]; exact (Keeps.refl w).alloc _
  have hb0 : W.heap[w.heap.size]? = some (.cells #[.slice A L c] 30) := by rw [hW]; exact obj_new w _
  have HB := Lib.hid hb0
  have HK := Lib.hid hk0
  clear hb0 hk0
  go_enter Tryz.func158, Tryz.ntmps158
  go_wp2_with fail
  go_loopw [6] (fun i wr => ∃ k : Nat, k ≤ L ∧ i = .int .i64 (k : Int) ∧ R = findFrom (l.drop k) k nm ∧ wr = W) (fun i _ => L - (intOf i).toNat)
  case atStart => exact ⟨0, by omega, rfl, HR.out, hW.symm⟩
  case round =>
    obtain ⟨k, hk, rfl, hres, rfl⟩ := hrel
    clear hW
    have hbc0 := (cells1 HB.out).1
    by_cases hlt : k < L
    · have hlt1 : k < l.length := by rw [HL.out]; exact hlt
      obtain ⟨ad, x0, x1, x2, x3, x4, x5, x6, x7, x8, rfl, _, hcol, c0, c1, c2, c3, c4, c5, c6, c7, c8⟩ := (HS.out.later HK.out.below).get k hlt1
      have hd : findFrom (l.drop k) k nm = if (l[k]'hlt1).name = nm then (k, true) else findFrom (l.drop (k + 1)) (k + 1) nm := by
        rw [List.drop_eq_getElem_cons hlt1, findFrom]
      rw [hd] at hres
      obtain ⟨⟨A2, k2, e2⟩, A8, k8, e8⟩ := hcol.form
      rw [hcol.nm] at c0
      rw [hcol.tk] at c1
      rw [e2] at c2
      rw [hcol.hs] at c3
      rw [hcol.dk] at c4
      rw [hcol.di] at c5
      rw [hcol.df] at c6
      rw [hcol.dt] at c7
      rw [e8] at c8
      clear hcol e2 e8 hd
      generalize hnx : (l[k]'hlt1).name = x at c0 hres
      generalize (l[k]'hlt1).ty.of.length = n2 at c2
      generalize (l[k]'hlt1).dflt.items.length = n8 at c8
      generalize (l[k]'hlt1).ty.kind = i1 at c1
      generalize (l[k]'hlt1).has = b3 at c3
      generalize (l[k]'hlt1).dflt.kind = i4 at c4
      generalize (l[k]'hlt1).dflt.int = i5 at c5
      generalize (l[k]'hlt1).dflt.fl = f6 at c6
      generalize (l[k]'hlt1).dflt.text = t7 at c7
      clear hnx
      by_cases hq : x = nm
      · subst hq
        rw [if_pos rfl] at hres
        have HRES := Lib.hid hres
        clear hres
        go_wp2
        go_ret2
        exact ⟨by rw [HRES.out]; rfl, HK.out⟩
      · rw [if_neg hq] at hres
        have HRES := Lib.hid hres
        have q4 := texts_ne hq
        clear hres hq
        go_wp2
        exact ⟨⟨k + 1, by omega, by go_num, HRES.out, trivial⟩, by simp [intOf]; omega⟩
    · have e : l.drop k = [] := List.drop_eq_nil_of_le (by rw [HL.out]; omega)
      rw [e, findFrom] at hres
      have HRES := Lib.hid hres
      clear hres e
      go_wp2
      go_ret2
      exact ⟨by rw [HRES.out]; rfl, HK.out⟩
end Go.Proofs.YtihodcnnappkbaaGreatDoor
namespace Go.Proofs.YtihodcnnappkbaaGreatDoor
open Go.RowKit Go.BigFrame
set_option linter.unusedVariables false
set_option linter.unusedSimpArgs false
attribute [local go_sem] run_storeF
def RefColPost (w : World) (r : Except Int (Col × Nat)) (e : Ending) (w' : World) : Prop :=
  match r with
  | .error er => e = .returned (.tuple #[.agg #[.string ⟨#[]⟩, .int .i64 0, .slice none 0 0, .bool false, .int .i64 0, .int .i64 0, .float .f64 0, .string ⟨#[]⟩, .slice none 0 0], .int .i64 0, .int .i64 er]) ∧ Keeps w w'
  | .ok (c, k) => ∃ x0 x1 x2 x3 x4 x5 x6 x7 x8, e = .returned (.tuple #[.agg #[x0, x1, x2, x3, x4, x5, x6, x7, x8], .int .i64 (k : Int), .int .i64 0]) ∧ ColC w' (fun b => w.heap.size ≤ b) x0 x1 x2 x3 x4 x5 x6 x7 x8 c ∧ Keeps w w'
theorem set9 {w1 : World} {g : Nat} (u0 u1 u2 u3 u4 u5 u6 u7 u8 : Value) : Touch (At g) w1 (((((((((w1.setCell ⟨g, 0, none⟩ u0).setCell ⟨g, 1, none⟩ u1).setCell ⟨g, 2, none⟩ u2).setCell ⟨g, 3, none⟩ u3).setCell ⟨g, 4, none⟩ u4).setCell ⟨g, 5, none⟩ u5).setCell ⟨g, 6, none⟩ u6).setCell ⟨g, 7, none⟩ u7).setCell ⟨g, 8, none⟩ u8) :=
  (((((((((Touch.refl (At g) w1).set 0 u0).set 1 u1).set 2 u2).set 3 u3).set 4 u4).set 5 u5).set 6 u6).set 7 u7).set 8 u8
abbrev colW (w : World) : World := (w.alloc (.cells #[.string ⟨#[]⟩, .int .i64 0, .slice none 0 0, .bool false, .int .i64 0, .int .i64 0, .float .f64 0, .string ⟨#[]⟩, .slice none 0 0] 103)).alloc (.cells #[.string ⟨#[]⟩, .int .i64 0, .slice none 0 0, .bool false, .int .i64 0, .int .i64 0, .float .f64 0, .string ⟨#[]⟩, .slice none 0 0] 103)
theorem colW_r (w : World) : (colW w).heap[w.heap.size]? = some (.cells #[.string ⟨#[]⟩, .int .i64 0, .slice none 0 0, .bool false, .int .i64 0, .int .i64 0, .float .f64 0, .string ⟨#[]⟩, .slice none 0 0] 103) := obj_old (obj_new w _) _
theorem colW_n (w : World) : (colW w).heap[w.heap.size + 1]? = some (.cells #[.string ⟨#[]⟩, .int .i64 0, .slice none 0 0, .bool false, .int .i64 0, .int .i64 0, .float .f64 0, .string ⟨#[]⟩, .slice none 0 0] 103) := obj_new_at _ _ _ (by simp)
theorem colW_keeps (w : World) : Keeps w (colW w) := ((Keeps.refl w).alloc _).alloc _
theorem colW_size (w : World) : (colW w).heap.size = w.heap.size + 2 := by simp [colW]
theorem nameOk_empty : nameOk ⟨#[]⟩ = false := rfl
set_option maxRecDepth 20000 in
set_option maxHeartbeats 8000000 in
theorem refReadColumn_calls (B : Option Addr) (cb : Nat) (cols : List Col) (S : Nat → Prop) (A : Option Addr) (c : Nat) (l : List UInt8) (a : Nat) (w : World) (hs : SchS w S B cols) (hl : l.length ≤ 140737488355328) (hcap : l.length ≤ c) (hr : Reads w A l) (ha : a ≤ l.length) :
    Calls Tryz.prog 129 #[.slice B cols.length cb, .slice A l.length c, .int .i64 (a : Int)] w (RefColPost w (rCol l cols a)) := by
  have hg := ref3Get_calls A c l a (colW w) hl (hr.below (colW_keeps w).below) ha
  have htx := refText_calls A c l a 16 70 (colW w) hl hcap (hr.below (colW_keeps w).below) ha (by omega)
  have hfi := fun (w2 : World) (T : ByteArray) (hk : Keeps w w2) => refFind_calls B cb S cols T w2 (hs.later hk.below)
  have hty := fun (w2 : World) (a : Nat) (hk : Keeps w w2) (h : a ≤ l.length) => refReadType_calls A c l hl 4 1 a w2 rfl (hr.below hk.below) h
  have hbt := fun (w2 : World) (a : Nat) (hk : Keeps w w2) (h : a ≤ l.length) => refBit_calls A c l a w2 hl (hr.below hk.below) h
  have hva := fun (t : Ty) (v : Value) (w2 : World) (a : Nat) (hk : Keeps w w2) (ht : tyCheck t 1 = 0) (hv : TyAt w2 v t) (h : a ≤ l.length) => refValueAt_calls (SizeOf.sizeOf t + 1) t 1 v A c l a w2 (by omega) ht hv hl hcap (hr.below hk.below) h
  simp only [bitAt_eq] at hbt
  obtain ⟨R, hR⟩ : ∃ R, R = rCol l cols a := ⟨_, rfl⟩
  rw [← hR]
  have HG := Lib.hid hg
  have HTX := Lib.hid htx
  have HFI := Lib.hid hfi
  have HTY := Lib.hid hty
  have HBT := Lib.hid hbt
  have HVA := Lib.hid hva
  have HR := Lib.hid hR
  clear hg htx hfi hty hbt hva hR hr hs
  generalize hLL : l.length = L at *
  have HL := Lib.hid hLL
  clear hLL
  generalize cols.length = NB at *
  cases hget : lebGet l a with
  | error er =>
    rw [hget] at HG
    have HE : Hid (R = .error er) := Lib.hid (by rw [HR.out]; exact rCol_text (by unfold rText; rw [hget]))
    have qe : (er != 0) = true := by simpa using lebGet_err hget
    clear hget HR HTX HFI HTY HBT HVA
    go_enter Tryz.func129, Tryz.ntmps129
    go_wp2_with fail
    refine HG.out.mono ?_
    rintro e w1 ⟨rfl, rfl⟩
    simp only [getOut]
    obtain ⟨⟨d0, d1, d2, d3, d4, d5, d6, d7, d8⟩, ⟨z0, z1, z2, z3, z4, z5, z6, z7, z8⟩⟩ := cells9 (colW_r w)
    obtain ⟨⟨e0, e1, e2, e3, e4, e5, e6, e7, e8⟩, ⟨y0, y1, y2, y3, y4, y5, y6, y7, y8⟩⟩ := cells9 (colW_n w)
    have u3 := obj_lt (colW_n w)
    go_wp2
    refine bodyPost_ret (v := .tuple #[.agg #[.string ⟨#[]⟩, .int .i64 0, .slice none 0 0, .bool false, .int .i64 0, .int .i64 0, .float .f64 0, .string ⟨#[]⟩, .slice none 0 0], .int .i64 0, .int .i64 er]) (by simp [results, Tryz.results129, go_sem, u3, d0, d1, d2, d3, d4, d5, d6, d7, d8]) rfl ?_
    rw [HE.out]
    exact ⟨rfl, ((Keeps.refl w).alloc _).alloc _⟩
  | ok r =>
  obtain ⟨n, k0⟩ := r
  rw [hget] at HG
  have hn64 := lebGet_num hget
  have hk0L : k0 ≤ L := by rw [← HL.out]; exact lebGet_le (by rw [HL.out]; exact ha) hget
  by_cases hn0 : n = 0
  case pos =>
    subst hn0
    have htxt : rText 16 70 l a = .ok ([], k0) := by unfold rText; rw [hget]; simp
    have HE : Hid (R = .error 70) := Lib.hid (by rw [HR.out]; exact rCol_name htxt nameOk_empty)
    clear hget HR HTX HFI HTY HBT HVA htxt
    go_enter Tryz.func129, Tryz.ntmps129
    go_wp2_with fail
    refine HG.out.mono ?_
    rintro e w1 ⟨rfl, rfl⟩
    simp only [getOut]
    obtain ⟨⟨d0, d1, d2, d3, d4, d5, d6, d7, d8⟩, ⟨z0, z1, z2, z3, z4, z5, z6, z7, z8⟩⟩ := cells9 (colW_r w)
    obtain ⟨⟨e0, e1, e2, e3, e4, e5, e6, e7, e8⟩, ⟨y0, y1, y2, y3, y4, y5, y6, y7, y8⟩⟩ := cells9 (colW_n w)
    have u3 := obj_lt (colW_n w)
    go_wp2
    refine bodyPost_ret (v := .tuple #[.agg #[.string ⟨#[]⟩, .int .i64 0, .slice none 0 0, .bool false, .int .i64 0, .int .i64 0, .float .f64 0, .string ⟨#[]⟩, .slice none 0 0], .int .i64 0, .int .i64 70]) (by simp [results, Tryz.results129, go_sem, u3, d0, d1, d2, d3, d4, d5, d6, d7, d8]) rfl ?_
    rw [HE.out]
    exact ⟨rfl, ((Keeps.refl w).alloc _).alloc _⟩
  case neg =>
  have qn : ((n : Int) == 0) = false := by rw [beq_eq_false_iff_ne]; omega
  clear hget hn0
  go_enter Tryz.func129, Tryz.ntmps129
  go_wp2_with fail
  refine HG.out.mono ?_
  rintro e w1 ⟨rfl, rfl⟩
  simp only [getOut]
  clear HG
  go_wp2_with fail
  clear qn
  refine HTX.out.mono ?_
  rintro e w2 ⟨rfl, hk2⟩
  have HBR2 := Lib.hid ((hk2.below.block _ (obj_lt (colW_r w))).trans (colW_r w))
  have HBN2 := Lib.hid ((hk2.below.block _ (obj_lt (colW_n w))).trans (colW_n w))
  have HS2 := Lib.hid (show w.heap.size + 2 ≤ w2.heap.size by have := hk2.size; rw [colW_size] at this; exact this)
  have HK2 := Lib.hid ((colW_keeps w).trans hk2)
  clear hk2 HTX
  cases htxt : rText 16 70 l a with
  | error er =>
    simp only [textOut]
    have HE : Hid (R = .error er) := Lib.hid (by rw [HR.out]; exact rCol_text htxt)
    have qe : (er != 0) = true := by simpa using rText_err (by omega) htxt
    clear htxt HR HFI HTY HBT HVA
    obtain ⟨⟨d0, d1, d2, d3, d4, d5, d6, d7, d8⟩, ⟨z0, z1, z2, z3, z4, z5, z6, z7, z8⟩⟩ := cells9 HBR2.out
    obtain ⟨⟨e0, e1, e2, e3, e4, e5, e6, e7, e8⟩, ⟨y0, y1, y2, y3, y4, y5, y6, y7, y8⟩⟩ := cells9 HBN2.out
    have u3 := obj_lt HBN2.out
    have u2 := obj_lt HBR2.out
    go_wp2
    refine bodyPost_ret (v := .tuple #[.agg #[.string ⟨#[]⟩, .int .i64 0, .slice none 0 0, .bool false, .int .i64 0, .int .i64 0, .float .f64 0, .string ⟨#[]⟩, .slice none 0 0], .int .i64 0, .int .i64 er]) (by simp [results, Tryz.results129, go_sem, u2, u3, d0, d1, d2, d3, d4, d5, d6, d7, d8]) rfl ?_
    rw [HE.out]
    exact ⟨rfl, res_keeps HK2.out ((set9 _ _ _ _ _ _ _ _ _))⟩
  | ok r =>
  obtain ⟨t, k⟩ := r
  simp only [textOut]
  have hkL : k ≤ L := by
    have h := (rText_cut htxt).1
    rw [← HL.out]
    exact h.le (by unfold textBytes; rw [List.length_append]; have := leb_some (str t).size; omega)
  have HTXT := Lib.hid htxt
  clear htxt
  obtain ⟨T, hT⟩ : ∃ T, T = str t := ⟨_, rfl⟩
  rw [← hT]
  have HTT := Lib.hid hT
  clear hT
  go_wp2_with fail
  refine (refName_calls T w2).mono ?_
  rintro e w3 ⟨rfl, rfl⟩
  cases hno : nameOk T with
  | false =>
    have HE : Hid (R = .error 70) := Lib.hid (by rw [HR.out]; exact rCol_name HTXT.out (by rw [← HTT.out]; exact hno))
    clear hno HR HFI HTY HBT HVA
    obtain ⟨⟨d0, d1, d2, d3, d4, d5, d6, d7, d8⟩, ⟨z0, z1, z2, z3, z4, z5, z6, z7, z8⟩⟩ := cells9 HBR2.out
    obtain ⟨⟨e0, e1, e2, e3, e4, e5, e6, e7, e8⟩, ⟨y0, y1, y2, y3, y4, y5, y6, y7, y8⟩⟩ := cells9 HBN2.out
    have u3 := obj_lt HBN2.out
    have u2 := obj_lt HBR2.out
    go_wp2
    refine bodyPost_ret (v := .tuple #[.agg #[.string ⟨#[]⟩, .int .i64 0, .slice none 0 0, .bool false, .int .i64 0, .int .i64 0, .float .f64 0, .string ⟨#[]⟩, .slice none 0 0], .int .i64 0, .int .i64 70]) (by simp [results, Tryz.results129, go_sem, u2, u3, d0, d1, d2, d3, d4, d5, d6, d7, d8]) rfl ?_
    rw [HE.out]
    exact ⟨rfl, res_keeps HK2.out ((set9 _ _ _ _ _ _ _ _ _))⟩
  | true =>
  have HNO : Hid (nameOk (str t) = true) := Lib.hid (by rw [← HTT.out]; exact hno)
  clear hno
  go_wp2_with fail
  refine (HFI.out w2 T HK2.out).mono ?_
  rintro e w3 ⟨rfl, hk3⟩
  have HBR3 := Lib.hid ((hk3.below.block _ (obj_lt HBR2.out)).trans HBR2.out)
  have HBN3 := Lib.hid ((hk3.below.block _ (obj_lt HBN2.out)).trans HBN2.out)
  have HS3 := Lib.hid (show w.heap.size + 2 ≤ w3.heap.size by have := hk3.size; have := HS2.out; omega)
  have HK3 := Lib.hid (HK2.out.trans hk3)
  clear hk3 HBR2 HBN2 HS2 HK2 HFI
  generalize hfi : (findCol cols T).2 = Y
  generalize (findCol cols T).1 = X
  cases Y with
  | true =>
    have HE : Hid (R = .error 71) := Lib.hid (by rw [HR.out]; exact rCol_twice HTXT.out HNO.out (by rw [← HTT.out]; exact hfi))
    clear hfi HR HTY HBT HVA
    obtain ⟨⟨d0, d1, d2, d3, d4, d5, d6, d7, d8⟩, ⟨z0, z1, z2, z3, z4, z5, z6, z7, z8⟩⟩ := cells9 HBR3.out
    obtain ⟨⟨e0, e1, e2, e3, e4, e5, e6, e7, e8⟩, ⟨y0, y1, y2, y3, y4, y5, y6, y7, y8⟩⟩ := cells9 HBN3.out
    have u3 := obj_lt HBN3.out
    have u2 := obj_lt HBR3.out
    go_wp2
    refine bodyPost_ret (v := .tuple #[.agg #[.string ⟨#[]⟩, .int .i64 0, .slice none 0 0, .bool false, .int .i64 0, .int .i64 0, .float .f64 0, .string ⟨#[]⟩, .slice none 0 0], .int .i64 0, .int .i64 71]) (by simp [results, Tryz.results129, go_sem, u2, u3, d0, d1, d2, d3, d4, d5, d6, d7, d8]) rfl ?_
    rw [HE.out]
    exact ⟨rfl, res_keeps HK3.out ((set9 _ _ _ _ _ _ _ _ _))⟩
  | false =>
  have HFC : Hid ((findCol cols (str t)).2 = false) := Lib.hid (by rw [← HTT.out]; exact hfi)
  clear hfi
  go_wp2_with fail
  refine (HTY.out w3 k HK3.out hkL).mono ?_
  rintro e w4 hpost
  cases hkd : rKind 4 l k with
  | error er =>
    rw [hkd] at hpost
    obtain ⟨rfl, hk4⟩ : _ ∧ _ := hpost
    have HBR4 := Lib.hid ((hk4.below.block _ (obj_lt HBR3.out)).trans HBR3.out)
    have HBN4 := Lib.hid ((hk4.below.block _ (obj_lt HBN3.out)).trans HBN3.out)
    have HS4 := Lib.hid (show w.heap.size + 2 ≤ w4.heap.size by have := hk4.size; have := HS3.out; omega)
    have HK4 := Lib.hid (HK3.out.trans hk4)
    have HE : Hid (R = .error er) := Lib.hid (by rw [HR.out]; exact rCol_kind HTXT.out HNO.out HFC.out hkd)
    have qe : (er != 0) = true := by simpa using rKind_err _ _ _ _ hkd
    clear hkd hk4 HBR3 HBN3 HS3 HK3 HR HTY HBT HVA
    obtain ⟨⟨d0, d1, d2, d3, d4, d5, d6, d7, d8⟩, ⟨z0, z1, z2, z3, z4, z5, z6, z7, z8⟩⟩ := cells9 HBR4.out
    obtain ⟨⟨e0, e1, e2, e3, e4, e5, e6, e7, e8⟩, ⟨y0, y1, y2, y3, y4, y5, y6, y7, y8⟩⟩ := cells9 HBN4.out
    have u3 := obj_lt HBN4.out
    have u2 := obj_lt HBR4.out
    go_wp2
    refine bodyPost_ret (v := .tuple #[.agg #[.string ⟨#[]⟩, .int .i64 0, .slice none 0 0, .bool false, .int .i64 0, .int .i64 0, .float .f64 0, .string ⟨#[]⟩, .slice none 0 0], .int .i64 0, .int .i64 er]) (by simp [results, Tryz.results129, go_sem, u2, u3, d0, d1, d2, d3, d4, d5, d6, d7, d8]) rfl ?_
    rw [HE.out]
    exact ⟨rfl, res_keeps HK4.out ((set9 _ _ _ _ _ _ _ _ _).alloc _)⟩
  | ok r =>
  obtain ⟨ty, k2⟩ := r
  rw [hkd] at hpost
  obtain ⟨v, rfl, hvt, hk4⟩ : ∃ v, _ ∧ _ ∧ _ := hpost
  obtain ⟨A4, c4, rfl⟩ := hvt.form
  obtain ⟨hcut4, htc⟩ := rKind_cut 4 l k ty k2 1 rfl hkd
  have hk2L : k2 ≤ L := by rw [← HL.out]; exact hcut4.le (by cases ty; rw [putTy]; simp)
  have HBR4 := Lib.hid ((hk4.below.block _ (obj_lt HBR3.out)).trans HBR3.out)
  have HBN4 := Lib.hid ((hk4.below.block _ (obj_lt HBN3.out)).trans HBN3.out)
  have HS4 := Lib.hid (show w.heap.size + 2 ≤ w4.heap.size by have := hk4.size; have := HS3.out; omega)
  have HK4 := Lib.hid (HK3.out.trans hk4)
  have HVT := Lib.hid ((hvt.mono (S' := fun b => w.heap.size + 2 ≤ b) fun b _ hb => by have := HS3.out; omega))
  have HKD := Lib.hid hkd
  have HTC := Lib.hid htc
  clear hkd htc hvt hk4 hcut4 HBR3 HBN3 HS3 HK3 HTY
  obtain ⟨W5, hW5⟩ : ∃ W5, W5 = w4.alloc (.cells #[.int .i64 ty.kind, .slice A4 ty.of.length c4] 97) := ⟨_, rfl⟩
  have hk5 : Keeps w4 W5 := by rw [hW5]; exact (Keeps.refl w4).alloc _
  have hbt5 : W5.heap[w4.heap.size]? = some (.cells #[.int .i64 ty.kind, .slice A4 ty.of.length c4] 97) := by rw [hW5]; exact obj_new w4 _
  have HBTY := Lib.hid hbt5
  have HW5 := Lib.hid hW5
  have HBR5 := Lib.hid ((hk5.below.block _ (obj_lt HBR4.out)).trans HBR4.out)
  have HBN5 := Lib.hid ((hk5.below.block _ (obj_lt HBN4.out)).trans HBN4.out)
  have HS5 := Lib.hid (show w.heap.size + 2 ≤ W5.heap.size by have := hk5.size; have := HS4.out; omega)
  have HK5 := Lib.hid (HK4.out.trans hk5)
  have HVT5 := Lib.hid (HVT.out.later hk5.below)
  clear hk5 hbt5 hW5 HBR4 HBN4 HK4 HVT
  generalize ty.of.length = m4 at HBTY HVT5 HW5
  generalize hkk : ty.kind = kk at HBTY HVT5 HW5
  have HKK := Lib.hid hkk
  clear hkk
  go_wp2_with fail
  rw [← HW5.out]
  refine (HBT.out W5 k2 HK5.out hk2L).mono ?_
  rintro e w6 ⟨rfl, rfl⟩
  cases hbit : rBit l k2 with
  | error er =>
    simp only [bitOut]
    have HE : Hid (R = .error er) := Lib.hid (by rw [HR.out]; exact rCol_bit HTXT.out HNO.out HFC.out HKD.out hbit)
    have qe : (er != 0) = true := by rcases rBit_err hbit with h | h <;> rw [h] <;> rfl
    clear hbit HR HBT HVA
    obtain ⟨⟨d0, d1, d2, d3, d4, d5, d6, d7, d8⟩, ⟨z0, z1, z2, z3, z4, z5, z6, z7, z8⟩⟩ := cells9 HBR5.out
    obtain ⟨⟨e0, e1, e2, e3, e4, e5, e6, e7, e8⟩, ⟨y0, y1, y2, y3, y4, y5, y6, y7, y8⟩⟩ := cells9 HBN5.out
    have u3 := obj_lt HBN5.out
    have u2 := obj_lt HBR5.out
    go_wp2
    refine bodyPost_ret (v := .tuple #[.agg #[.string ⟨#[]⟩, .int .i64 0, .slice none 0 0, .bool false, .int .i64 0, .int .i64 0, .float .f64 0, .string ⟨#[]⟩, .slice none 0 0], .int .i64 0, .int .i64 er]) (by simp [results, Tryz.results129, go_sem, u2, u3, d0, d1, d2, d3, d4, d5, d6, d7, d8]) rfl ?_
    rw [HE.out]
    exact ⟨rfl, res_keeps HK5.out ((set9 _ _ _ _ _ _ _ _ _))⟩
  | ok r =>
  obtain ⟨x, k3⟩ := r
  simp only [bitOut]
  have hx := rBit_lt hbit
  have hk3L : k3 ≤ L := by
    have h := (rBit_cut hbit).1
    rw [← HL.out]
    exact h.le (by simp)
  have HBIT := Lib.hid hbit
  clear hbit HBT
  obtain ⟨t0, t1, _, _⟩ := cells2 HBTY.out
  have ut := obj_lt HBTY.out
  by_cases hx1 : x = 1
  case neg =>
    obtain rfl : x = 0 := by omega
    have HE : Hid (R = .ok (⟨T, ty, false, vaZero⟩, k3)) := Lib.hid (by rw [HR.out, HTT.out]; exact rCol_no HTXT.out HNO.out HFC.out HKD.out HBIT.out hx1)
    clear HR HVA hx1
    obtain ⟨⟨d0, d1, d2, d3, d4, d5, d6, d7, d8⟩, ⟨z0, z1, z2, z3, z4, z5, z6, z7, z8⟩⟩ := cells9 HBR5.out
    have u3 := obj_lt HBR5.out
    go_wp2
    refine bodyPost_ret (v := .tuple #[.agg #[.string T, .int .i64 kk, .slice A4 m4 c4, .bool false, .int .i64 0, .int .i64 0, .float .f64 0, .string ⟨#[]⟩, .slice none 0 0], .int .i64 (k3 : Int), .int .i64 0]) (by simp [results, Tryz.results129, go_sem, u3, d0, d1, d2, d3, d4, d5, d6, d7, d8]) rfl ?_
    rw [HE.out]
    refine ⟨_, _, _, _, _, _, _, _, _, rfl, ⟨rfl, by rw [HKK.out], rfl, rfl, rfl, rfl, rfl, (HVT5.out.touch (set9 (g := w.heap.size) _ _ _ _ _ _ _ _ _) fun b hb e => ?_).mono fun b _ hb => ?_, VaS.leaf _ _ _ _ _ _ _ _⟩, res_keeps HK5.out (set9 _ _ _ _ _ _ _ _ _)⟩
    · have h2 : b = w.heap.size := e
      have h3 : w.heap.size + 2 ≤ b := hb
      omega
    · have h3 : w.heap.size + 2 ≤ b := hb
      omega
  case pos =>
  subst hx1
  go_wp2_with fail
  refine (HVA.out ty _ W5 k3 HK5.out HTC.out HVT5.out.at hk3L).mono ?_
  rintro e w7 hpost
  clear t0 t1 ut
  cases hval : rValue ty l k3 with
  | error er =>
    rw [hval] at hpost
    obtain ⟨rfl, hk7⟩ : _ ∧ _ := hpost
    have HBR7 := Lib.hid ((hk7.below.block _ (obj_lt HBR5.out)).trans HBR5.out)
    have HBN7 := Lib.hid ((hk7.below.block _ (obj_lt HBN5.out)).trans HBN5.out)
    have HS7 := Lib.hid (show w.heap.size + 2 ≤ w7.heap.size by have := hk7.size; have := HS5.out; omega)
    have HK7 := Lib.hid (HK5.out.trans hk7)
    have HE : Hid (R = .error er) := Lib.hid (by rw [HR.out]; exact rCol_val HTXT.out HNO.out HFC.out HKD.out HBIT.out rfl hval)
    have qe : (er != 0) = true := by simpa using rValue_err 4 ty 1 rfl HTC.out _ _ _ hval
    clear hval hk7 HR HVA
    obtain ⟨⟨d0, d1, d2, d3, d4, d5, d6, d7, d8⟩, ⟨z0, z1, z2, z3, z4, z5, z6, z7, z8⟩⟩ := cells9 HBR7.out
    obtain ⟨⟨e0, e1, e2, e3, e4, e5, e6, e7, e8⟩, ⟨y0, y1, y2, y3, y4, y5, y6, y7, y8⟩⟩ := cells9 HBN7.out
    have u3 := obj_lt HBN7.out
    have u2 := obj_lt HBR7.out
    go_wp2
    refine bodyPost_ret (v := .tuple #[.agg #[.string ⟨#[]⟩, .int .i64 0, .slice none 0 0, .bool false, .int .i64 0, .int .i64 0, .float .f64 0, .string ⟨#[]⟩, .slice none 0 0], .int .i64 0, .int .i64 er]) (by simp [results, Tryz.results129, go_sem, u2, u3, d0, d1, d2, d3, d4, d5, d6, d7, d8]) rfl ?_
    rw [HE.out]
    exact ⟨rfl, res_keeps HK7.out ((set9 _ _ _ _ _ _ _ _ _).alloc _)⟩
  | ok r =>
  obtain ⟨y, k4⟩ := r
  rw [hval] at hpost
  obtain ⟨v7, rfl, hv7, hk7⟩ : ∃ v, _ ∧ _ ∧ _ := hpost
  obtain ⟨A7, c7, rfl⟩ := hv7.form
  have HBR7 := Lib.hid ((hk7.below.block _ (obj_lt HBR5.out)).trans HBR5.out)
  have HBN7 := Lib.hid ((hk7.below.block _ (obj_lt HBN5.out)).trans HBN5.out)
  have HS7 := Lib.hid (show w.heap.size + 2 ≤ w7.heap.size by have := hk7.size; have := HS5.out; omega)
  have HK7 := Lib.hid (HK5.out.trans hk7)
  have HE : Hid (R = .ok (⟨T, ty, true, y⟩, k4)) := Lib.hid (by rw [HR.out, HTT.out]; exact rCol_yes HTXT.out HNO.out HFC.out HKD.out HBIT.out rfl hval)
  have hbt7 := (hk7.below.block _ (obj_lt HBTY.out)).trans HBTY.out
  obtain ⟨t0, t1, _, _⟩ := cells2 hbt7
  have ut := obj_lt hbt7
  have HVT7 := Lib.hid (HVT5.out.later hk7.below)
  have HV7 := Lib.hid (hv7.mono (S' := fun b => w.heap.size + 2 ≤ b) fun b _ hb => by have := HS5.out; omega)
  clear hval hk7 hv7 hbt7 HR HVA HVT5
  obtain ⟨⟨d0, d1, d2, d3, d4, d5, d6, d7, d8⟩, ⟨z0, z1, z2, z3, z4, z5, z6, z7, z8⟩⟩ := cells9 HBR7.out
  have u3 := obj_lt HBR7.out
  go_wp2
  refine bodyPost_ret (v := .tuple #[.agg #[.string T, .int .i64 kk, .slice A4 m4 c4, .bool true, .int .i64 y.kind, .int .i64 y.int, .float .f64 y.fl, .string y.text, .slice A7 y.items.length c7], .int .i64 (k4 : Int), .int .i64 0]) (by simp [results, Tryz.results129, go_sem, u3, d0, d1, d2, d3, d4, d5, d6, d7, d8]) rfl ?_
  rw [HE.out]
  refine ⟨_, _, _, _, _, _, _, _, _, rfl, ⟨rfl, by rw [HKK.out], rfl, rfl, rfl, rfl, rfl, (HVT7.out.touch ((set9 (g := w.heap.size) _ _ _ _ _ _ _ _ _).alloc _) fun b hb e => ?_).mono fun b _ hb => ?_, (HV7.out.touch ((set9 (g := w.heap.size) _ _ _ _ _ _ _ _ _).alloc _) fun b hb e => ?_).mono fun b _ hb => ?_⟩, res_keeps HK7.out ((set9 _ _ _ _ _ _ _ _ _).alloc _)⟩
  all_goals
    have h3 : w.heap.size + 2 ≤ b := hb
    try (have h2 : b = w.heap.size := e)
    omega
structure RCols (w : World) (l : List UInt8) (many : Nat) (R : Except Int (List Col × Nat)) (j : Nat) (Ar : Option Addr) (cr : Nat) (wr : World) (a : Nat) (cols : List Col) (xs : List Value) : Prop where
  le : j ≤ many
  len : cols.length = j
  res : R = rCols l (many - j) a cols
  own : Loose wr (w.heap.size + 1) 103 9 (.slice Ar j cr) j xs
  cols : Cols wr (fun b => w.heap.size + 1 ≤ b ∧ blk (.slice Ar j cr) ≠ some b) xs cols
  br : wr.heap[w.heap.size]? = some (.cells #[.slice none 0 0] 30)
  keeps : Keeps w wr
theorem RCols.sch {w : World} {l : List UInt8} {many : Nat} {R : Except Int (List Col × Nat)} {j : Nat} {Ar : Option Addr} {cr : Nat} {wr : World} {a : Nat} {cols : List Col} {xs : List Value}
    (h : RCols w l many R j Ar cr wr a cols xs) (hm : many ≤ 16) : SchS wr (fun b => w.heap.size + 1 ≤ b) Ar cols := by
  obtain ⟨_, _, e1, hnc, hrow, hcm, _⟩ := h.own.form
  injection e1 with e1 e2 e3
  subst e1 e3
  have hown := h.own.lt
  refine ⟨⟨xs, hrow, h.cols.mono fun b _ hb => hb.1⟩, fun ad e hn => ?_, by have := h.len; have := h.le; omega⟩
  subst e
  have hp : 0 < cols.length := List.length_pos_iff.2 hn
  have hl := h.len
  exact (hown ad.block (by unfold blk; simp; omega)).1
theorem RCols.step {w : World} {l : List UInt8} {many : Nat} {R : Except Int (List Col × Nat)} {j : Nat} {Ar : Option Addr} {cr : Nat} {wr : World} {a : Nat} {cols : List Col} {xs : List Value}
    (h : RCols w l many R j Ar cr wr a cols xs) (hlt : j < many) {y : Col} {k2 : Nat} (hq : R = rCols l (many - j - 1) k2 (cols ++ [y]))
    {w3 W3 : World} {x0 x1 x2 x3 x4 x5 x6 x7 x8 : Value} (hc3 : ColC w3 (fun b => wr.heap.size ≤ b) x0 x1 x2 x3 x4 x5 x6 x7 x8 y)
    (ht30 : Keeps wr w3) (hk3 : Keeps w3 W3) {w4 : World} {A4 : Option Addr} {c4 : Nat}
    (hl4 : Loose w4 (w.heap.size + 1) 103 9 (.slice A4 (j + 1) c4) (j + 1) (xs ++ [x0, x1, x2, x3, x4, x5, x6, x7, x8]))
    (hg4 : W3.grownBy w4 (blk (.slice Ar j cr)))
    (ha4 : blk (.slice A4 (j + 1) c4) = blk (.slice Ar j cr) ∨ blk (.slice A4 (j + 1) c4) = some W3.heap.size) :
    RCols w l many R (j + 1) A4 c4 w4 k2 (cols ++ [y]) (xs ++ [x0, x1, x2, x3, x4, x5, x6, x7, x8]) := by
  have hown := h.own.lt
  have hbv := obj_lt h.br
  have hsz3 : wr.heap.size ≤ w3.heap.size := ht30.size
  have hszW := hk3.size
  have htF : Touch (fun b => blk (.slice Ar j cr) = some b) W3 w4 := Touch.of_grown hg4 fun b e => e
  have hlow : ∀ b, blk (.slice Ar j cr) = some b → w.heap.size + 1 ≤ b := fun b hb => (hown b hb).1
  have hk03 : Keeps w W3 := (h.keeps.trans ht30).trans hk3
  have hall : Keeps w w4 :=
    Touch.nothing (F := fun b => w.heap.size ≤ b) ((Touch.of_below (F := fun b => w.heap.size ≤ b) hk03.below fun b hb h => h).trans htF fun b hb h => by have := hlow b h; omega) fun b hb h => by omega
  refine ⟨by omega, by simp [h.len], by rw [hq]; congr 1, hl4, ?_, ?_, hall⟩
  · have hi3 : Cols W3 (fun b => w.heap.size + 1 ≤ b ∧ blk (.slice Ar j cr) ≠ some b) xs cols := (h.cols.later ht30).later hk3
    have hy3 : ColC W3 (fun b => w.heap.size + 1 ≤ b ∧ blk (.slice Ar j cr) ≠ some b) x0 x1 x2 x3 x4 x5 x6 x7 x8 y :=
      (hc3.later hk3).mono fun b _ hb => by
        have hb' : wr.heap.size ≤ b := hb
        exact ⟨by omega, fun e => by have := (hown b e).2; omega⟩
    have hm : Cols W3 (fun b => w.heap.size + 1 ≤ b ∧ blk (.slice Ar j cr) ≠ some b ∧ blk (.slice A4 (j + 1) c4) ≠ some b) (xs ++ [x0, x1, x2, x3, x4, x5, x6, x7, x8]) (cols ++ [y]) :=
      (hi3.snoc hy3).mono fun b hlt hb => ⟨hb.1, hb.2, fun e => by
        rcases ha4 with h4 | h4
        · rw [h4] at e; exact hb.2 e
        · rw [h4] at e; injection e with e; omega⟩
    exact (hm.touch htF fun b hb hF => hb.2.1 hF).mono fun b _ hb => ⟨hb.1, hb.2.2⟩
  · exact htF.obj (((ht30.trans hk3).below.block _ (by omega)).trans h.br) fun hF => by have := hlow _ hF; omega
theorem rCol_err {l : List UInt8} {cols : List Col} {a : Nat} {e : Int} (h : rCol l cols a = .error e) : e ≠ 0 := by
  unfold rCol at h
  split at h
  · rename_i e1 ht
    injection h with h
    rw [← h]; exact rText_err (by omega) ht
  · split at h
    · injection h with h; omega
    split at h
    · injection h with h; omega
    split at h
    · rename_i e1 hk
      injection h with h
      rw [← h]; exact rKind_err _ _ _ _ hk
    · rename_i ty k2 hk
      have htc := (rKind_cut 4 _ _ _ _ 1 rfl hk).2
      split at h
      · rename_i e1 hb
        injection h with h
        rcases rBit_err hb with h' | h' <;> omega
      · split at h
        · split at h
          · rename_i e1 hv
            injection h with h
            rw [← h]; exact rValue_err 4 ty 1 rfl htc _ _ _ hv
          · cases h
        · cases h
theorem putCol_some (c : Col) : 0 < (putCol c).length := by
  unfold putCol textBytes
  rw [List.length_append, List.length_append]
  have := leb_some c.name.size
  omega
theorem rCol_le {l : List UInt8} {cols : List Col} {a k : Nat} {c : Col} (h : rCol l cols a = .ok (c, k)) : k ≤ l.length := (rCol_cut h).1.le (putCol_some c)
set_option maxRecDepth 20000 in
set_option maxHeartbeats 4000000 in
theorem refSchDecode_calls (A : Option Addr) (c : Nat) (l : List UInt8) (w : World) (hl : l.length ≤ 140737488355328) (hcap : l.length ≤ c) (hr : Reads w A l) :
    Calls Tryz.prog 97 #[.slice A l.length c] w (DecPost w (decodeS l)) := by
  obtain ⟨W0, hW0⟩ : ∃ W0, W0 = w.alloc (.cells #[.slice none 0 0] 30) := ⟨_, rfl⟩
  have hk0 : Keeps w W0 := by rw [hW0]; exact (Keeps.refl w).alloc _
  have hb0 : W0.heap[w.heap.size]? = some (.cells #[.slice none 0 0] 30) := by rw [hW0]; exact obj_new w _
  have hg := ref3Get_calls A c l 0 W0 hl (hr.below hk0.below) (by omega)
  have hrc := fun (B : Option Addr) (cb : Nat) (cols : List Col) (S : Nat → Prop) (a : Nat) (w2 : World) (hk : Keeps w w2) (hs : SchS w2 S B cols) (ha : a ≤ l.length) => refReadColumn_calls B cb cols S A c l a w2 hs hl hcap (hr.below hk.below) ha
  obtain ⟨R, hR⟩ : ∃ R, R = decodeS l := ⟨_, rfl⟩
  rw [← hR]
  unfold decodeS at hR
  have HG := Lib.hid hg
  have HRC := Lib.hid hrc
  have HR := Lib.hid hR
  have HB0 := Lib.hid hb0
  have HK0 := Lib.hid hk0
  clear hg hrc hR hb0 hk0 hr
  generalize hLL : l.length = L at *
  have HL := Lib.hid hLL
  clear hLL
  by_cases hL1 : 1024 < L
  case pos =>
    have HE : Hid (R = .error 2) := Lib.hid (by rw [HR.out, if_pos hL1])
    clear HR HG HRC HB0 HK0 hW0
    go_enter Tryz.func97, Tryz.ntmps97
    go_wp2
    refine bodyPost_ret (v := .tuple #[.agg #[.slice none 0 0], .int .i64 2]) (by simp [results, Tryz.results97, go_sem]) rfl ?_
    rw [HE.out]
    exact ⟨rfl, (Keeps.refl w).alloc _⟩
  case neg =>
  have hL2 : L ≤ 1024 := by omega
  have HR1 : Hid (R = rSchema l 0) := Lib.hid (by rw [HR.out, if_neg hL1])
  clear HR hL1
  obtain ⟨d0, z0⟩ := cells1 HB0.out
  have u0 := obj_lt HB0.out
  cases hget : lebGet l 0 with
  | error er =>
    rw [hget] at HG
    have HE : Hid (R = .error er) := Lib.hid (by rw [HR1.out]; unfold rSchema; rw [hget])
    have qe : (er != 0) = true := by simpa using lebGet_err hget
    clear hget HR1 HRC
    go_enter Tryz.func97, Tryz.ntmps97
    go_wp2_with fail
    rw [← hW0]
    clear hW0
    refine HG.out.mono ?_
    rintro e w1 ⟨rfl, rfl⟩
    simp only [getOut]
    go_wp2
    refine bodyPost_ret (v := .tuple #[.agg #[.slice none 0 0], .int .i64 er]) (by simp [results, Tryz.results97, go_sem, u0, d0]) rfl ?_
    rw [HE.out]
    exact ⟨rfl, res_keeps HK0.out ((Touch.refl (At w.heap.size) _).set 0 _)⟩
  | ok r =>
  obtain ⟨n, k0⟩ := r
  rw [hget] at HG
  have hn64 := lebGet_num hget
  have hk0L : k0 ≤ L := by rw [← HL.out]; exact lebGet_le (by omega) hget
  have HR2 : Hid (R = if n = 0 then .error 4 else if 16 < n then .error 3 else rEnd l (rCols l n k0 [])) := Lib.hid (by rw [HR1.out]; unfold rSchema; rw [hget])
  clear hget HR1
  by_cases hn0 : n = 0
  case pos =>
    subst hn0
    have HE : Hid (R = .error 4) := Lib.hid (by rw [HR2.out, if_pos rfl])
    clear HR2 HRC
    go_enter Tryz.func97, Tryz.ntmps97
    go_wp2_with fail
    rw [← hW0]
    clear hW0
    refine HG.out.mono ?_
    rintro e w1 ⟨rfl, rfl⟩
    simp only [getOut]
    go_wp2
    refine bodyPost_ret (v := .tuple #[.agg #[.slice none 0 0], .int .i64 4]) (by simp [results, Tryz.results97, go_sem, u0, d0]) rfl ?_
    rw [HE.out]
    exact ⟨rfl, res_keeps HK0.out ((Touch.refl (At w.heap.size) _).set 0 _)⟩
  case neg =>
  have qn : ((n : Int) == 0) = false := by rw [beq_eq_false_iff_ne]; omega
  by_cases hn16 : 16 < n
  case pos =>
    have HE : Hid (R = .error 3) := Lib.hid (by rw [HR2.out, if_neg hn0, if_pos hn16])
    clear HR2 HRC hn0
    go_enter Tryz.func97, Tryz.ntmps97
    go_wp2_with fail
    rw [← hW0]
    clear hW0
    refine HG.out.mono ?_
    rintro e w1 ⟨rfl, rfl⟩
    simp only [getOut]
    go_wp2
    refine bodyPost_ret (v := .tuple #[.agg #[.slice none 0 0], .int .i64 3]) (by simp [results, Tryz.results97, go_sem, u0, d0]) rfl ?_
    rw [HE.out]
    exact ⟨rfl, res_keeps HK0.out ((Touch.refl (At w.heap.size) _).set 0 _)⟩
  case neg =>
  have hn2 : n ≤ 16 := by omega
  have hnw : IntKind.i64.wrap (n : Int) = (n : Int) := IntWalk.i64_in _ (by omega)
  have HR3 : Hid (R = rEnd l (rCols l n k0 [])) := Lib.hid (by rw [HR2.out, if_neg hn0, if_neg hn16])
  clear HR2 hn0 hn16
  obtain ⟨Q, hQ⟩ : ∃ Q, Q = rCols l n k0 [] := ⟨_, rfl⟩
  rw [← hQ] at HR3
  have hrel0 : RCols w l n Q 0 none 0 W0 k0 [] [] := ⟨by omega, rfl, hQ, Loose.empty _ _ _ _ none, Cols.nil _ _, HB0.out, HK0.out⟩
  have HR0 := Lib.hid hrel0
  clear hrel0 hQ
  go_enter Tryz.func97, Tryz.ntmps97
  go_wp2_with fail
  rw [← hW0]
  clear hW0
  refine HG.out.mono ?_
  rintro e w1 ⟨rfl, rfl⟩
  simp only [getOut]
  go_wp2_with fail
  clear d0 z0 u0 qn HG HB0 HK0
  go_loopw [5, 7, 8] (fun at_ b i wr => ∃ (j : Nat) (Ar : Option Addr) (cr a : Nat) (cols : List Col) (xs : List Value), i = .int .i64 (j : Int) ∧ at_ = .int .i64 (a : Int) ∧ b = .slice Ar j cr ∧ a ≤ L ∧ RCols w l n Q j Ar cr wr a cols xs) (fun _ _ i _ => n - (intOf i).toNat)
  case atStart => exact ⟨0, none, 0, k0, [], [], rfl, rfl, rfl, hk0L, HR0.out⟩
  case round =>
    clear HR0 hk0L
    obtain ⟨j, Ar, cr, a, cols, xs, rfl, rfl, rfl, haL, hrel⟩ := hrel
    obtain ⟨d0, z0⟩ := cells1 hrel.br
    have u0 := obj_lt hrel.br
    by_cases hlt : j < n
    · have hc := HRC.out Ar cr cols _ a wr hrel.keeps (hrel.sch hn2) haL
      rw [hrel.len] at hc
      have hres := hrel.res
      have HREL := Lib.hid hrel
      clear hrel
      cases hq : rCol l cols a with
      | error er =>
        rw [hq] at hc
        rw [rCols_error hq (by omega)] at hres
        have qe : (er != 0) = true := by simpa using rCol_err hq
        have HC := Lib.hid hc
        have HE : Hid (R = .error er) := Lib.hid (by rw [HR3.out, hres]; rfl)
        clear hc hres hq HRC HR3
        go_wp2_with fail
        refine HC.out.mono ?_
        rintro e w3 ⟨rfl, hk3⟩
        have hb3 := (hk3.below.block _ (obj_lt HREL.out.br)).trans HREL.out.br
        have HK3 := Lib.hid (HREL.out.keeps.trans hk3)
        clear d0 z0 u0
        obtain ⟨d0, z0⟩ := cells1 hb3
        have u0 := obj_lt hb3
        clear hb3 hk3 HC
        go_wp2
        refine bodyPost_ret (v := .tuple #[.agg #[.slice none 0 0], .int .i64 er]) (by simp [results, Tryz.results97, go_sem, u0, d0]) rfl ?_
        rw [HE.out]
        exact ⟨rfl, res_keeps HK3.out (((Touch.refl (At w.heap.size) w3).set 0 _).alloc _)⟩
      | ok r =>
        obtain ⟨y, k2⟩ := r
        have hk2L : k2 ≤ L := by rw [← HL.out]; exact rCol_le hq
        rw [hq] at hc
        rw [rCols_ok hq (by omega)] at hres
        have HC := Lib.hid hc
        have HRES := Lib.hid hres
        clear hc hres hq HRC
        go_wp2_with fail
        refine HC.out.mono ?_
        rintro e w3 ⟨x0, x1, x2, x3, x4, x5, x6, x7, x8, rfl, hcol, hk3⟩
        obtain ⟨⟨A2, k3, e2⟩, A8, k8, e8⟩ := hcol.form
        have hnm := hcol.nm; have htkd := hcol.tk; have hhs := hcol.hs; have hdk := hcol.dk; have hdi := hcol.di; have hdf := hcol.df; have hdt := hcol.dt
        subst hnm htkd e2 hhs hdk hdi hdf hdt e8
        obtain ⟨W4, hW4⟩ : ∃ W4, W4 = (w3.alloc (.cells #[.string y.name, .int .i64 y.ty.kind, .slice A2 y.ty.of.length k3, .bool y.has, .int .i64 y.dflt.kind, .int .i64 y.dflt.int, .float .f64 y.dflt.fl, .string y.dflt.text, .slice A8 y.dflt.items.length k8] 103)).alloc (.cells #[.string y.name, .int .i64 y.ty.kind, .slice A2 y.ty.of.length k3, .bool y.has, .int .i64 y.dflt.kind, .int .i64 y.dflt.int, .float .f64 y.dflt.fl, .string y.dflt.text, .slice A8 y.dflt.items.length k8] 103) := ⟨_, rfl⟩
        have hk4 : Keeps w3 W4 := by rw [hW4]; exact ((Keeps.refl w3).alloc _).alloc _
        have hrow4 : RowAt W4 (some ⟨w3.heap.size + 1, 0, none⟩) [.string y.name, .int .i64 y.ty.kind, .slice A2 y.ty.of.length k3, .bool y.has, .int .i64 y.dflt.kind, .int .i64 y.dflt.int, .float .f64 y.dflt.fl, .string y.dflt.text, .slice A8 y.dflt.items.length k8] := by rw [hW4]; exact RowAt.new_at _ _ _ _ _ rfl _ (by simp)
        have HOW := Lib.hid ((HREL.out.own.below hk3.below).below hk4.below)
        have HROW := Lib.hid hrow4
        have HCOL := Lib.hid hcol
        have HK3 := Lib.hid hk3
        have HK4 := Lib.hid hk4
        have HW4 := Lib.hid hW4
        clear hk3 hk4 hrow4 hcol hW4 HC d0 z0 u0
        go_wp2_with (at_builtin; rw [← HW4.out]; refine wpList_append_rows (w.heap.size + 1) (by rfl) _ _ 28 103 (.agg #[.string ⟨#[]⟩, .int .i64 0, .slice none 0 0, .bool false, .int .i64 0, .int .i64 0, .float .f64 0, .string ⟨#[]⟩, .slice none 0 0]) 9 120 (by rfl) Tryz.underlying28 info_column rfl (by omega) (.slice Ar j cr) j xs (by rfl) HOW.out (some ⟨w3.heap.size + 1, 0, none⟩) 1 1 [.string y.name, .int .i64 y.ty.kind, .slice A2 y.ty.of.length k3, .bool y.has, .int .i64 y.dflt.kind, .int .i64 y.dflt.int, .float .f64 y.dflt.fl, .string y.dflt.text, .slice A8 y.dflt.items.length k8] (by rfl) (by rfl) HROW.out (by simp [Value.oneCell']) (by simp only [maxLen]; omega) (by omega) (by have h1 := HREL.out.br; have h2 := obj_lt h1; have h3 := HK3.out.size; have h4 := HK4.out.size; omega) ?_)
        intro v5 w5 hl5 hg5 hat5
        obtain ⟨A5, c5, rfl, _⟩ := hl5.form
        have HL5 := Lib.hid hl5; have HG5 := Lib.hid hg5; have HA5 := Lib.hid hat5
        clear hl5 hg5 hat5
        go_wp2
        exact ⟨⟨j + 1, A5, c5, k2, cols ++ [y], _, by go_num, rfl, rfl, hk2L, HREL.out.step hlt HRES.out HCOL.out HK3.out HK4.out HL5.out HG5.out HA5.out⟩, by simp [intOf]; omega⟩
    · have ej : j = n := by have := hrel.le; omega
      subst ej
      have hq := hrel.res
      rw [Nat.sub_self, rCols] at hq
      have hv := hrel.len
      have hsc := hrel.sch hn2
      have HSC := Lib.hid hsc
      have HK := Lib.hid hrel.keeps
      have HV := Lib.hid hv
      have HR4 : Hid (R = if a = L then .ok cols else .error 5) := Lib.hid (by rw [HR3.out, hq, ← HL.out]; rfl)
      clear hrel hq hv HRC hsc HR3
      by_cases haE : a = L
      · subst haE
        have HE : Hid (R = .ok cols) := Lib.hid (by rw [HR4.out, if_pos rfl])
        clear HR4
        go_wp2
        refine bodyPost_ret (v := .tuple #[.agg #[.slice Ar j cr], .int .i64 0]) (by simp [results, Tryz.results97, go_sem, u0, d0]) rfl ?_
        rw [HE.out]
        refine ⟨Ar, cr, by rw [HV.out], (HSC.out.touch ((Touch.refl (At w.heap.size) wr).set 0 _) fun b hb e => ?_).mono fun b _ hb => ?_, res_keeps HK.out ((Touch.refl (At w.heap.size) wr).set 0 _)⟩
        · have h2 : b = w.heap.size := e
          have h3 : w.heap.size + 1 ≤ b := hb
          omega
        · have h3 : w.heap.size + 1 ≤ b := hb
          omega
      · have HE : Hid (R = .error 5) := Lib.hid (by rw [HR4.out, if_neg haE])
        have qa : ((a : Int) != (L : Int)) = true := by rw [bne_iff_ne]; omega
        clear HR4 haE
        go_wp2
        refine bodyPost_ret (v := .tuple #[.agg #[.slice none 0 0], .int .i64 5]) (by simp [results, Tryz.results97, go_sem, u0, d0]) rfl ?_
        rw [HE.out]
        exact ⟨rfl, res_keeps HK.out ((Touch.refl (At w.heap.size) wr).set 0 _)⟩
end Go.Proofs.YtihodcnnappkbaaGreatDoor
