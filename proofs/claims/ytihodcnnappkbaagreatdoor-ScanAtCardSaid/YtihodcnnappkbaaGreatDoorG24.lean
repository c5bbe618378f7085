/-
  The walk of the reference's entries: an index's fields. Condition: the bytes read, and there is one. The walk of the reference's entries: an index's fields. Condition: the bytes read, and there is one.
-/
import Derived.Test.YtihodcnnappkbaaGreatDoorG21
import Derived.Test.YtihodcnnappkbaaGreatDoorG9
import Derived.Test.YtihodcnnappkbaaGreatDoorG23
import Derived.Deep.RegionHeld3
namespace Go.Proofs.YtihodcnnappkbaaGreatDoor
open Go.RowKit Go.BigFrame
set_option linter.unusedVariables false
set_option linter.unusedSimpArgs false
attribute [local go_sem] run_storeF
theorem rnum_bad {l : List UInt8} {m : Nat} {s : Nat × Bool} (h : s.2 = true) : (rnum l m s).2.2 = true := by
  unfold rnum; rw [if_pos h]
theorem rnum_toNat {l : List UInt8} {m : Nat} {s : Nat × Bool} (h : (rnum l m s).2.2 = false) : (((rnum l m s).1.toNat : Nat) : Int) = (rnum l m s).1 ∧ (rnum l m s).1.toNat < m := by
  unfold rnum at h ⊢
  split at h
  · simp at h
  · rename_i hs
    rw [if_neg hs]
    split at h
    · simp at h
    · rename_i n k hg
      split at h
      · simp at h
      · rename_i hm
        simp only [hm, if_false]
        simp
        omega
theorem pair_false {s : Nat × Bool} (h : s.2 = false) : (s.1, false) = s := by cases s; simp_all
theorem some_next (l : List UInt8) (m : Nat) (ms : List Nat) (s : Nat × Bool) (acc : List Nat) (hs : s.2 = false) :
    someGo l (m :: ms) s.1 acc = if (rnum l m s).2.2 = true then none else someGo l ms (rnum l m s).2.1 (acc ++ [(rnum l m s).1.toNat]) := by
  rw [someGo_cons, pair_false hs]
theorem some_ent (l : List UInt8) (s : Nat × Bool) (hs : s.2 = false) : someGo l [seqMax, seqMax, seqMax] s.1 [] =
    if (rent l s).2.2 = true then none else some ([(rent l s).1.spot.toNat, (rent l s).1.row.toNat, (rent l s).1.sch.toNat], (rent l s).2.1) := by
  unfold rent
  simp only
  rw [some_next _ _ _ _ _ hs]
  by_cases h1 : (rnum l seqMax s).2.2 = true
  · rw [if_pos h1, if_pos (rnum_bad (rnum_bad h1))]
  · rw [if_neg h1, some_next _ _ _ _ _ (by simpa using h1)]
    by_cases h2 : (rnum l seqMax (rnum l seqMax s).2).2.2 = true
    · rw [if_pos h2, if_pos (rnum_bad h2)]
    · rw [if_neg h2, some_next _ _ _ _ _ (by simpa using h2)]
      by_cases h3 : (rnum l seqMax (rnum l seqMax (rnum l seqMax s).2).2).2.2 = true
      · rw [if_pos h3, if_pos h3]
      · rw [if_neg h3, if_neg h3, someGo]
        simp
theorem rent_nums {l : List UInt8} {s : Nat × Bool} (h : (rent l s).2.2 = false) : (((rent l s).1.spot.toNat : Nat) : Int) = (rent l s).1.spot ∧ (((rent l s).1.row.toNat : Nat) : Int) = (rent l s).1.row ∧ (((rent l s).1.sch.toNat : Nat) : Int) = (rent l s).1.sch := by
  unfold rent at h ⊢
  simp only at h ⊢
  have b2 : (rnum l seqMax (rnum l seqMax s).2).2.2 = false := by rw [← Bool.not_eq_true]; intro h'; rw [rnum_bad h'] at h; simp at h
  have b1 : (rnum l seqMax s).2.2 = false := by rw [← Bool.not_eq_true]; intro h'; rw [rnum_bad h'] at b2; simp at b2
  exact ⟨(rnum_toNat b1).1, (rnum_toNat b2).1, (rnum_toNat h).1⟩
def entsGo (l : List UInt8) : Nat → Nat → List Ent → Option (List Ent × Nat)
  | 0, a, es => some (es, a)
  | n + 1, a, es => if (rent l (a, false)).2.2 = true then none else entsGo l n (rent l (a, false)).2.1 (es ++ [(rent l (a, false)).1])
theorem entsGo_eq (l : List UInt8) : ∀ (n : Nat) (s : Nat × Bool) (es : List Ent), s.2 = false → entsGo l n s.1 es = if (rents l n s).2.2 = true then none else some (es ++ (rents l n s).1, (rents l n s).2.1)
  | 0, s, es, hs => by rw [entsGo, rents]; simp [hs]
  | n + 1, s, es, hs => by
    rw [entsGo, pair_false hs, rents_step _ _ _ hs]
    by_cases h : (rent l s).2.2 = true
    · rw [if_pos h]
      simp only
      rw [rents_bad _ _ _ h]
      rw [if_pos h]
    · rw [if_neg h, entsGo_eq l n _ _ (by simpa using h)]
      simp
def ixEnd (L p q r : Nat) : Option (List Ent × Nat) → Except Int Fr
  | none => .error 5
  | some (es, k2) => if k2 = L then .ok { frZero with kind := 3, spot := (p : Int), frames := (q : Int), irows := (r : Int), ents := es } else .error 5
theorem takeI_eq (l : List UInt8) : takeI l = match someGo l [seqMax, seqMax, seqMax, 65] 1 [] with
    | none => .error 5
    | some (vs, k) => ixEnd l.length (vs.getD 0 0) (vs.getD 1 0) (vs.getD 2 0) (entsGo l (vs.getD 3 0) k []) := by
  unfold takeI rindex
  simp only
  rw [show someGo l [seqMax, seqMax, seqMax, 65] 1 [] = someGo l [seqMax, seqMax, seqMax, 65] ((1, false) : Nat × Bool).1 [] from rfl, some_next _ _ _ _ _ rfl]
  by_cases h1 : (rnum l seqMax (1, false)).2.2 = true
  · rw [if_pos h1, rents_bad _ _ _ (rnum_bad (rnum_bad (rnum_bad h1)))]
    simp [rnum_bad (m := 65) (rnum_bad (m := seqMax) (rnum_bad (m := seqMax) h1))]
  rw [if_neg h1, some_next _ _ _ _ _ (by simpa using h1)]
  by_cases h2 : (rnum l seqMax (rnum l seqMax (1, false)).2).2.2 = true
  · rw [if_pos h2, rents_bad _ _ _ (rnum_bad (rnum_bad h2))]
    simp [rnum_bad (m := 65) (rnum_bad (m := seqMax) h2)]
  rw [if_neg h2, some_next _ _ _ _ _ (by simpa using h2)]
  by_cases h3 : (rnum l seqMax (rnum l seqMax (rnum l seqMax (1, false)).2).2).2.2 = true
  · rw [if_pos h3, rents_bad _ _ _ (rnum_bad h3)]
    simp [rnum_bad (m := 65) h3]
  rw [if_neg h3, some_next _ _ _ _ _ (by simpa using h3)]
  by_cases h4 : (rnum l 65 (rnum l seqMax (rnum l seqMax (rnum l seqMax (1, false)).2).2).2).2.2 = true
  · rw [if_pos h4, rents_bad _ _ _ h4]
    simp [h4]
  rw [if_neg h4, someGo]
  have g1 := (rnum_toNat (show (rnum l seqMax (1, false)).2.2 = false by simpa using h1)).1
  have g2 := (rnum_toNat (show (rnum l seqMax (rnum l seqMax (1, false)).2).2.2 = false by simpa using h2)).1
  have g3 := (rnum_toNat (show (rnum l seqMax (rnum l seqMax (rnum l seqMax (1, false)).2).2).2.2 = false by simpa using h3)).1
  simp only [List.nil_append, List.cons_append, List.getD_cons_zero, List.getD_cons_succ]
  rw [entsGo_eq _ _ _ _ (by simpa using h4)]
  generalize rents l (rnum l 65 (rnum l seqMax (rnum l seqMax (rnum l seqMax (1, false)).2).2).2).1.toNat (rnum l 65 (rnum l seqMax (rnum l seqMax (rnum l seqMax (1, false)).2).2).2).2 = rs
  by_cases h5 : rs.2.2 = true
  · rw [if_pos h5, ixEnd]
    simp [h5]
  · rw [if_neg h5, ixEnd]
    simp only [List.nil_append, g1, g2, g3]
    by_cases h6 : rs.2.1 = l.length
    · simp [h5, h6]
    · simp [h5, h6]
theorem Keeps.cellIs {w w' : World} (h : Keeps w w') {p : Addr} {v : Value} (hc : w.cell? p = some v) : w'.cell? p = some v := by
  rw [h.below.cell (World.block_lt_of_cell? w _ hc)]; exact hc
def allLt : List Nat → List Nat → Prop
  | [], [] => True
  | n :: ns, m :: ms => n < m ∧ allLt ns ms
  | _, _ => False
theorem someGo_ok {l : List UInt8} : ∀ (ms : List Nat) (a : Nat) (acc vs : List Nat) (k : Nat), a ≤ l.length → someGo l ms a acc = some (vs, k) → ∃ ns, vs = acc ++ ns ∧ allLt ns ms ∧ k ≤ l.length
  | [], a, acc, vs, k, ha, h => by
    rw [someGo] at h
    injection h with h
    injection h with h1 h2
    exact ⟨[], by simp [h1], True.intro, by omega⟩
  | m :: ms, a, acc, vs, k, ha, h => by
    rw [someGo] at h
    split at h
    · cases h
    · rename_i n k2 hg
      split at h
      · cases h
      · rename_i hm
        obtain ⟨ns, h1, h2, h3⟩ := someGo_ok ms k2 (acc ++ [n]) vs k (lebGet_le ha hg) h
        exact ⟨n :: ns, by rw [h1]; simp, ⟨by omega, h2⟩, h3⟩
theorem allLt4 {ns : List Nat} {m1 m2 m3 m4 : Nat} (h : allLt ns [m1, m2, m3, m4]) : ∃ p q r n, ns = [p, q, r, n] ∧ p < m1 ∧ q < m2 ∧ r < m3 ∧ n < m4 := by
  match ns, h with
  | [p, q, r, n], h => exact ⟨p, q, r, n, rfl, h.1, h.2.1, h.2.2.1, h.2.2.2.1⟩
theorem allLt3 {ns : List Nat} {m1 m2 m3 : Nat} (h : allLt ns [m1, m2, m3]) : ∃ p q r, ns = [p, q, r] ∧ p < m1 ∧ q < m2 ∧ r < m3 := by
  match ns, h with
  | [p, q, r], h => exact ⟨p, q, r, rfl, h.1, h.2.1, h.2.2.1⟩
theorem allLt1 {ns : List Nat} {m1 : Nat} (h : allLt ns [m1]) : ∃ p, ns = [p] ∧ p < m1 := by
  match ns, h with
  | [p], h => exact ⟨p, rfl, h.1⟩
theorem row4 {w : World} {A : Option Addr} {p q r n : Nat} (h : RowAt w A (n64s [p, q, r, n])) : ∃ ad, A = some ad ∧ w.cell? ad = some (.int .i64 (p : Int)) ∧ w.cell? ⟨ad.block, ad.off + 1, none⟩ = some (.int .i64 (q : Int)) ∧ w.cell? ⟨ad.block, ad.off + 2, none⟩ = some (.int .i64 (r : Int)) ∧ w.cell? ⟨ad.block, ad.off + 3, none⟩ = some (.int .i64 (n : Int)) := by
  obtain ⟨ad, rfl, c0⟩ := row_n64 h 0 (by simp)
  have g : ∀ (i : Nat) (hi : i < [p, q, r, n].length), w.cell? (ad.add i) = some (.int .i64 (([p, q, r, n][i]'hi : Nat) : Int)) := fun i hi => by
    obtain ⟨ad2, e, hc⟩ := row_n64 h i hi
    cases e
    exact hc
  refine ⟨ad, rfl, by simpa [addr_add_zero] using g 0 (by simp), ?_, ?_, ?_⟩
  · rw [← addr_add_pos ad 1 (by omega)]; exact g 1 (by simp)
  · rw [← addr_add_pos ad 2 (by omega)]; exact g 2 (by simp)
  · rw [← addr_add_pos ad 3 (by omega)]; exact g 3 (by simp)
theorem row3 {w : World} {A : Option Addr} {p q r : Nat} (h : RowAt w A (n64s [p, q, r])) : ∃ ad, A = some ad ∧ w.cell? ad = some (.int .i64 (p : Int)) ∧ w.cell? ⟨ad.block, ad.off + 1, none⟩ = some (.int .i64 (q : Int)) ∧ w.cell? ⟨ad.block, ad.off + 2, none⟩ = some (.int .i64 (r : Int)) := by
  obtain ⟨ad, rfl, c0⟩ := row_n64 h 0 (by simp)
  have g : ∀ (i : Nat) (hi : i < [p, q, r].length), w.cell? (ad.add i) = some (.int .i64 (([p, q, r][i]'hi : Nat) : Int)) := fun i hi => by
    obtain ⟨ad2, e, hc⟩ := row_n64 h i hi
    cases e
    exact hc
  refine ⟨ad, rfl, by simpa [addr_add_zero] using g 0 (by simp), ?_, ?_⟩
  · rw [← addr_add_pos ad 1 (by omega)]; exact g 1 (by simp)
  · rw [← addr_add_pos ad 2 (by omega)]; exact g 2 (by simp)
abbrev z11 : Array Value := #[.int .i64 0, .int .i64 0, .slice none 0 0, .int .i64 0, .int .i64 0, .int .i64 0, .slice none 0 0, .int .i64 0, .int .i64 0, .int .i64 0, .slice none 0 0]
theorem set11 {w1 : World} {g : Nat} (u0 u1 u2 u3 u4 u5 u6 u7 u8 u9 u10 : Value) : Touch (At g) w1 (((((((((((w1.setCell ⟨g, 0, none⟩ u0).setCell ⟨g, 1, none⟩ u1).setCell ⟨g, 2, none⟩ u2).setCell ⟨g, 3, none⟩ u3).setCell ⟨g, 4, none⟩ u4).setCell ⟨g, 5, none⟩ u5).setCell ⟨g, 6, none⟩ u6).setCell ⟨g, 7, none⟩ u7).setCell ⟨g, 8, none⟩ u8).setCell ⟨g, 9, none⟩ u9).setCell ⟨g, 10, none⟩ u10) :=
  (((((((((((Touch.refl (At g) w1).set 0 u0).set 1 u1).set 2 u2).set 3 u3).set 4 u4).set 5 u5).set 6 u6).set 7 u7).set 8 u8).set 9 u9).set 10 u10
theorem ents_none {l : List UInt8} {m a : Nat} {es : List Ent} (h : someGo l [seqMax, seqMax, seqMax] a [] = none) : entsGo l (m + 1) a es = none := by
  rw [show a = ((a, false) : Nat × Bool).1 from rfl, some_ent _ _ rfl] at h
  rw [entsGo]
  by_cases hb : (rent l (a, false)).2.2 = true
  · rw [if_pos hb]
  · rw [if_neg hb] at h; cases h
theorem ents_some {l : List UInt8} {m a k : Nat} {es : List Ent} {x y z : Nat} (h : someGo l [seqMax, seqMax, seqMax] a [] = some ([x, y, z], k)) : entsGo l (m + 1) a es = entsGo l m k (es ++ [⟨(x : Int), (y : Int), (z : Int)⟩]) := by
  rw [show a = ((a, false) : Nat × Bool).1 from rfl, some_ent _ _ rfl] at h
  rw [entsGo]
  by_cases hb : (rent l (a, false)).2.2 = true
  · rw [if_pos hb] at h; cases h
  · rw [if_neg hb] at h
    obtain ⟨g1, g2, g3⟩ := rent_nums (show (rent l (a, false)).2.2 = false by simpa using hb)
    rw [if_neg hb]
    injection h with h
    injection h with h1 h2
    simp only [List.cons.injEq, and_true] at h1
    obtain ⟨e1, e2, e3⟩ := h1
    rw [h2]
    congr 2
    rw [← e1, ← e2, ← e3, g1, g2, g3]
structure REnt (w1 : World) (bi : Nat) (l : List UInt8) (p q r n : Nat) (Q : Option (List Ent × Nat)) (j : Nat) (E : Option Addr) (ke : Nat) (wr : World) (a : Nat) (es : List Ent) : Prop where
  le : j ≤ n
  len : es.length = j
  res : Q = entsGo l (n - j) a es
  own : Loose wr (bi + 1) 78 3 (.slice E j ke) j (entCells es)
  box : wr.heap[bi]? = some (.cells #[.int .i64 (p : Int), .int .i64 (q : Int), .int .i64 (r : Int), .slice E j ke] 34)
  keeps : Keeps w1 wr
theorem REnt.step {w1 : World} {bi : Nat} {l : List UInt8} {p q r n : Nat} {Q : Option (List Ent × Nat)} {j : Nat} {E : Option Addr} {ke : Nat} {wr : World} {a : Nat} {es : List Ent} (h : REnt w1 bi l p q r n Q j E ke wr a es) (hlt : j < n) (hbi : w1.heap.size ≤ bi) {y : Ent} {k2 : Nat} (hq : Q = entsGo l (n - j - 1) k2 (es ++ [y]))
    {W3 : World} (hk3 : Keeps wr W3) {w4 : World} {E4 : Option Addr} {k4 : Nat}
    (hl4 : Loose w4 (bi + 1) 78 3 (.slice E4 (j + 1) k4) (j + 1) (entCells es ++ [.int .i64 y.spot, .int .i64 y.row, .int .i64 y.sch]))
    (hg4 : W3.grownBy w4 (blk (.slice E j ke)))
    (hx4 : w4.heap[bi]? = some (.cells #[.int .i64 (p : Int), .int .i64 (q : Int), .int .i64 (r : Int), .slice E j ke] 34)) :
    REnt w1 bi l p q r n Q (j + 1) E4 k4 (w4.setCell ⟨bi, 3, none⟩ (.slice E4 (j + 1) k4)) k2 (es ++ [y]) := by
  have hown := h.own.lt
  have hnew := hl4.lt
  have htF : Touch (fun b => bi ≤ b) W3 (w4.setCell ⟨bi, 3, none⟩ (.slice E4 (j + 1) k4)) :=
    (Touch.of_grown hg4 fun b e => by have := (hown b e).1; omega).setCell _ _ fun _ => Nat.le_refl _
  have hall : Keeps w1 (w4.setCell ⟨bi, 3, none⟩ (.slice E4 (j + 1) k4)) :=
    Touch.nothing (F := fun b => w1.heap.size ≤ b) ((Touch.of_below (F := fun b => w1.heap.size ≤ b) (h.keeps.trans hk3).below fun b hb h => h).trans htF fun b hb h => by omega) fun b hb h => by omega
  refine ⟨by omega, by simp [h.len], by rw [hq]; congr 1, ?_, obj_set hx4 3 _, hall⟩
  rw [entCells_snoc]
  exact hl4.far (fun e => by have := (hnew _ e).1; simp at this; omega) _
set_option maxRecDepth 20000 in
set_option maxHeartbeats 8000000 in
theorem refEntries_calls (A : Option Addr) (c : Nat) (l : List UInt8) (w : World) (hl : l.length ≤ 140737488355328) (hr : Reads w A l) (h1 : 1 ≤ l.length) :
    Calls Tryz.prog 98 #[.slice A l.length c] w (TakePost w (takeI l)) := by
  obtain ⟨W0, hW0⟩ : ∃ W0, W0 = (w.alloc (.cells z11 36)).alloc (.cells #[.int .i64 1099511627776, .int .i64 1099511627776, .int .i64 1099511627776, .int .i64 65] 2) := ⟨_, rfl⟩
  have hk0 : Keeps w W0 := by rw [hW0]; exact ((Keeps.refl w).alloc _).alloc _
  have hb0 : W0.heap[w.heap.size]? = some (.cells z11 36) := by rw [hW0]; exact obj_old (obj_new w _) _
  have hb1 : W0.heap[w.heap.size + 1]? = some (.cells #[.int .i64 ((seqMax : Nat) : Int), .int .i64 ((seqMax : Nat) : Int), .int .i64 ((seqMax : Nat) : Int), .int .i64 ((65 : Nat) : Int)] 2) := by rw [hW0]; exact obj_new_at _ _ _ (by simp)
  have hs := refSome_calls A c l 1 (some ⟨w.heap.size + 1, 0, none⟩) 4 [seqMax, seqMax, seqMax, 65] W0 hl (hr.below hk0.below) h1 (by simp) (fun m hm => by simp only [List.mem_cons, List.not_mem_nil, or_false, seqMax] at hm; omega) (n64_four hb1)
  have hs2 := fun (a : Nat) (w2 : World) (B : Option Addr) (hk : Keeps w w2) (h : a ≤ l.length) (hb : RowAt w2 B (n64s [seqMax, seqMax, seqMax])) => refSome_calls A c l a B 3 [seqMax, seqMax, seqMax] w2 hl (hr.below hk.below) h (by simp) (fun m hm => by simp only [List.mem_cons, List.not_mem_nil, or_false, seqMax] at hm; omega) hb
  obtain ⟨R, hR⟩ : ∃ R, R = takeI l := ⟨_, rfl⟩
  rw [← hR]
  rw [takeI_eq] at hR
  have HS := Lib.hid hs
  have HS2 := Lib.hid hs2
  have HR := Lib.hid hR
  have HB0 := Lib.hid hb0
  have HK0 := Lib.hid hk0
  clear hs hs2 hR hb0 hb1 hk0 hr
  generalize hLL : l.length = L at *
  have HL := Lib.hid hLL
  clear hLL
  go_enter Tryz.func98, Tryz.ntmps98
  go_wp2_with fail
  rw [← hW0]
  clear hW0
  refine HS.out.mono ?_
  rintro e w1 hpost
  clear HS
  cases hgo : someGo l [seqMax, seqMax, seqMax, 65] 1 [] with
  | none =>
    rw [hgo] at hpost
    obtain ⟨rfl, hk1⟩ : _ ∧ _ := hpost
    have HE : Hid (R = .error 5) := Lib.hid (by rw [HR.out, hgo])
    have hb := (hk1.below.block _ (obj_lt HB0.out)).trans HB0.out
    obtain ⟨⟨d0, d1, d2, d3, d4, d5, d6, d7, d8, d9, d10⟩, ⟨z0, z1, z2, z3, z4, z5, z6, z7, z8, z9, z10⟩⟩ := cells11 hb
    have u0 := obj_lt hb
    have HK1 := Lib.hid (HK0.out.trans hk1)
    clear hk1 hb HR HS2 hgo
    go_wp2
    refine bodyPost_ret (v := .tuple #[.agg z11, .int .i64 5]) (by simp [results, Tryz.results98, go_sem, u0, d0, d1, d2, d3, d4, d5, d6, d7, d8, d9, d10]) rfl ?_
    rw [HE.out]
    exact ⟨rfl, res_keeps HK1.out (set11 _ _ _ _ _ _ _ _ _ _ _)⟩
  | some x =>
    obtain ⟨vs, k⟩ := x
    rw [hgo] at hpost
    obtain ⟨A4, c4, rfl, hrow, hlc, hk1⟩ : ∃ A4 c4, _ ∧ _ ∧ _ ∧ _ := hpost
    obtain ⟨ns, hv, hlt, hkL⟩ := someGo_ok _ _ _ _ _ (by rw [HL.out]; exact h1) hgo
    rw [HL.out] at hkL
    obtain ⟨p, q, r, n, rfl, hp, hq, hr, hn⟩ := allLt4 hlt
    rw [List.nil_append] at hv
    subst hv
    change Hid (R = _) at HR
    have HR1 : Hid (R = ixEnd L p q r (entsGo l n k [])) := Lib.hid (by rw [HR.out, hgo]; simp only [List.getD_cons_zero, List.getD_cons_succ, HL.out])
    obtain ⟨ad, rfl, x0, x1, x2, x3⟩ := row4 hrow
    have v0 := World.block_lt_of_cell? w1 _ x0
    have hb := (hk1.below.block _ (obj_lt HB0.out)).trans HB0.out
    have HB1 := Lib.hid hb
    have HK1 := Lib.hid (HK0.out.trans hk1)
    have HX0 := Lib.hid x0; have HX1 := Lib.hid x1; have HX2 := Lib.hid x2; have HX3 := Lib.hid x3
    change 4 ≤ c4 at hlc
    clear hk1 hb HR hgo hrow hlt HB0
    go_wp2_with fail
    go_region
    all_goals
      obtain ⟨W2, hW2⟩ : ∃ W2, W2 = (w1.alloc (.cells #[.int .i64 (p : Int), .int .i64 (q : Int), .int .i64 (r : Int), .slice none 0 0] 34)).drew := ⟨_, rfl⟩
      have hk2 : Keeps w1 W2 := by rw [hW2]; exact ((Keeps.refl w1).alloc _).trans (Keeps.drew _)
      have hbx : W2.heap[w1.heap.size]? = some (.cells #[.int .i64 (p : Int), .int .i64 (q : Int), .int .i64 (r : Int), .slice none 0 0] 34) := by rw [hW2]; exact obj_new w1 _
      obtain ⟨Q, hQ⟩ : ∃ Q, Q = entsGo l n k [] := ⟨_, rfl⟩
      rw [← hQ] at HR1
      have hrel0 : REnt w1 w1.heap.size l p q r n Q 0 none 0 W2 k [] := ⟨by omega, rfl, hQ, Loose.empty _ _ _ _ none, hbx, hk2⟩
      have HR0 := Lib.hid hrel0
      have HW2 := Lib.hid hW2
      clear hrel0 hQ hk2 hbx hW2 x0 x1 x2 x3
      go_wp2_with fail
      go_loopw [5, 8] (fun at_ i wr => ∃ (j a : Nat) (E : Option Addr) (ke : Nat) (es : List Ent), i = .int .i64 (j : Int) ∧ at_ = .int .i64 (a : Int) ∧ a ≤ L ∧ REnt w1 w1.heap.size l p q r n Q j E ke wr a es) (fun _ i _ => n - (intOf i).toNat)
      case atStart => exact ⟨0, k, none, 0, [], rfl, rfl, hkL, by rw [← HW2.out]; exact HR0.out⟩
      case round =>
        clear HR0 HW2 hkL
        obtain ⟨j, a, E, ke, es, rfl, rfl, haL, hrel⟩ := hrel
        have x3 := Keeps.cellIs hrel.keeps HX3.out
        obtain ⟨b0, b1, b2, b3, f0, f1, f2, f3⟩ := cells4 hrel.box
        have ub := obj_lt hrel.box
        have HREL := Lib.hid hrel
        clear hrel
        by_cases hlt : j < n
        · obtain ⟨W3, hW3⟩ : ∃ W3, W3 = wr.alloc (.cells #[.int .i64 1099511627776, .int .i64 1099511627776, .int .i64 1099511627776] 2) := ⟨_, rfl⟩
          have hk3 : Keeps wr W3 := by rw [hW3]; exact (Keeps.refl wr).alloc _
          have hb3 : W3.heap[wr.heap.size]? = some (.cells #[.int .i64 ((seqMax : Nat) : Int), .int .i64 ((seqMax : Nat) : Int), .int .i64 ((seqMax : Nat) : Int)] 2) := by rw [hW3]; exact obj_new wr _
          have hs := HS2.out a W3 (some ⟨wr.heap.size, 0, none⟩) (HK1.out.trans (HREL.out.keeps.trans hk3)) haL (n64_three hb3)
          have HS := Lib.hid hs
          have HK3 := Lib.hid hk3
          have HW3 := Lib.hid hW3
          clear hs hk3 hb3 hW3
          go_wp2_with fail
          rw [← HW3.out]
          refine HS.out.mono ?_
          rintro e w4 hpost
          clear HS
          cases hgo : someGo l [seqMax, seqMax, seqMax] a [] with
          | none =>
            rw [hgo] at hpost
            obtain ⟨rfl, hk4⟩ : _ ∧ _ := hpost
            have HE : Hid (R = .error 5) := Lib.hid (by
              have h := HREL.out.res
              rw [show n - j = n - j - 1 + 1 by omega, ents_none hgo] at h
              rw [HR1.out, h]; rfl)
            have hk14 := HREL.out.keeps.trans (HK3.out.trans hk4)
            have hb := (hk14.below.block _ (obj_lt HB1.out)).trans HB1.out
            obtain ⟨⟨d0, d1, d2, d3, d4, d5, d6, d7, d8, d9, d10⟩, ⟨z0, z1, z2, z3, z4, z5, z6, z7, z8, z9, z10⟩⟩ := cells11 hb
            have u0 := obj_lt hb
            have HK4 := Lib.hid (HK1.out.trans hk14)
            clear hk4 hk14 hb hgo x3 b0 b1 b2 b3 f0 f1 f2 f3 ub
            go_wp2
            refine bodyPost_ret (v := .tuple #[.agg z11, .int .i64 5]) (by simp [results, Tryz.results98, go_sem, u0, d0, d1, d2, d3, d4, d5, d6, d7, d8, d9, d10]) rfl ?_
            rw [HE.out]
            exact ⟨rfl, res_keeps HK4.out (set11 _ _ _ _ _ _ _ _ _ _ _)⟩
          | some x =>
            obtain ⟨vs, k2⟩ := x
            rw [hgo] at hpost
            obtain ⟨A5, c5, rfl, hrow, hlc5, hk4⟩ : ∃ A5 c5, _ ∧ _ ∧ _ ∧ _ := hpost
            obtain ⟨ns, hv, hlt3, hk2L⟩ := someGo_ok _ _ _ _ _ (by rw [HL.out]; exact haL) hgo
            rw [HL.out] at hk2L
            obtain ⟨x, y, z, rfl, hx, hy, hz⟩ := allLt3 hlt3
            rw [List.nil_append] at hv
            subst hv
            have hres := HREL.out.res
            rw [show n - j = n - j - 1 + 1 by omega, ents_some hgo] at hres
            obtain ⟨ae, rfl, y0, y1, y2⟩ := row3 hrow
            have v4 := World.block_lt_of_cell? w4 _ y0
            have hk34 := HK3.out.trans hk4
            have hbx := (hk34.below.block _ (obj_lt HREL.out.box)).trans HREL.out.box
            clear b0 b1 b2 b3 f0 f1 f2 f3 ub x3
            obtain ⟨b0, b1, b2, b3, f0, f1, f2, f3⟩ := cells4 hbx
            have ub := obj_lt hbx
            change 3 ≤ c5 at hlc5
            have HRES := Lib.hid hres
            have HK34 := Lib.hid hk34
            have HBX := Lib.hid hbx
            have HOW := Lib.hid (HREL.out.own.below hk34.below)
            have hsz4 : w1.heap.size + 1 ≤ w4.heap.size := by have := ub; omega
            clear hres hk34 hbx hk4 hrow hgo hlt3 hx hy hz
            go_wp2_with fail
            go_region_law (first
            | (refine step_append_rows (w1.heap.size + 1) (by rfl) _ _ 32 78 (.agg #[.int .i64 0, .int .i64 0, .int .i64 0]) 3 24 (by rfl) Tryz.underlying32 info_entry rfl (by omega) (.slice E j ke) j (entCells es) (by rfl)
                 (HOW.out.below (((Keeps.refl w4).alloc _).trans (Keeps.drew _)).below) (some ⟨w4.heap.size, 0, none⟩) 1 1 [.int .i64 (x : Int), .int .i64 (y : Int), .int .i64 (z : Int)] (by rfl) (by rfl) (RowAt.drew (RowAt.new_at w4 _ _ _ _ rfl _ rfl)) (by simp [Value.oneCell']) (by simp only [maxLen]; omega) (by omega) (Nat.le_trans hsz4 (((Keeps.refl w4).alloc _).trans (Keeps.drew _)).size) ?_
               intro v5 w5 hl5 hg5 hat5
               obtain ⟨E5, k5, rfl, _⟩ := hl5.form
               have hx5 := (hg5.block w1.heap.size (Nat.lt_of_lt_of_le ub (((Keeps.refl w4).alloc _).trans (Keeps.drew _)).size) (fun e => by have := (HOW.out.lt _ e.symm).1; omega)).trans (obj_old HBX.out _)
               obtain ⟨_, _, _, g3, m0, m1, m2, m3⟩ := cells4 hx5
               have u5 := obj_lt hx5
               have HX5 := Lib.hid hx5; have HL5 := Lib.hid hl5; have HG5 := Lib.hid hg5
               clear hx5 hl5 hg5 hat5))
            all_goals
              have HSTEP := Lib.hid (HREL.out.step hlt (Nat.le_refl _) HRES.out (HK34.out.trans (((Keeps.refl w4).alloc _).trans (Keeps.drew _))) HL5.out HG5.out HX5.out)
              go_wp2
              exact ⟨⟨j + 1, k2, E5, k5, es ++ [⟨(x : Int), (y : Int), (z : Int)⟩], by go_num, rfl, hk2L, HSTEP.out⟩, by simp [intOf]; omega⟩
        · have ej : j = n := by have := HREL.out.le; omega
          subst ej
          have hq := HREL.out.res
          rw [Nat.sub_self, entsGo] at hq
          have hv := HREL.out.len
          have HR2 : Hid (R = if a = L then .ok { frZero with kind := 3, spot := (p : Int), frames := (q : Int), irows := (r : Int), ents := es } else .error 5) := Lib.hid (by rw [HR1.out, hq]; rfl)
          have hb := (HREL.out.keeps.below.block _ (obj_lt HB1.out)).trans HB1.out
          obtain ⟨⟨d0, d1, d2, d3, d4, d5, d6, d7, d8, d9, d10⟩, ⟨z0, z1, z2, z3, z4, z5, z6, z7, z8, z9, z10⟩⟩ := cells11 hb
          have u0 := obj_lt hb
          have HV := Lib.hid hv
          clear hq hv hb
          by_cases haE : a = L
          · have HE := Lib.hid (HR2.out.trans (if_pos haE))
            have qa : ((a : Int) != (L : Int)) = false := by rw [bne_eq_false_iff_eq]; omega
            clear haE HR2
            go_wp2
            refine bodyPost_ret (v := .tuple #[.agg #[.int .i64 3, .int .i64 0, .slice none 0 0, .int .i64 0, .int .i64 0, .int .i64 0, .slice none 0 0, .int .i64 (p : Int), .int .i64 (q : Int), .int .i64 (r : Int), .slice E j ke], .int .i64 0]) (by simp [results, Tryz.results98, go_sem, u0, d0, d1, d2, d3, d4, d5, d6, d7, d8, d9, d10]) rfl ?_
            rw [HE.out]
            have hT := fun v0 v1 v2 v3 v4 v5 v6 v7 v8 v9 v10 => set11 (w1 := wr) (g := w.heap.size) v0 v1 v2 v3 v4 v5 v6 v7 v8 v9 v10
            have hwl : w.heap.size < w1.heap.size := obj_lt HB1.out
            refine ⟨none, 0, none, 0, E, ke, by show _ = Ending.returned (.tuple #[.agg #[_, _, _, _, _, _, _, _, _, _, .slice E es.length ke], _]); rw [HV.out]; rfl, ⟨SchS.nil _ _ _, OwnL.empty _ _ _ _, ?_⟩, res_keeps (HK1.out.trans HREL.out.keeps) (hT _ _ _ _ _ _ _ _ _ _ _)⟩
            show Loose _ _ _ _ (.slice E es.length ke) es.length (entCells es)
            rw [HV.out]
            refine (HREL.out.own.keep (hT _ _ _ _ _ _ _ _ _ _ _) fun b hb e => ?_).lower _ (by omega)
            have h2 : b = w.heap.size := e
            have := (HREL.out.own.lt b hb).1
            omega
          · have HE := Lib.hid (HR2.out.trans (if_neg haE))
            have qa : ((a : Int) != (L : Int)) = true := by rw [bne_iff_ne]; omega
            clear haE HR2
            go_wp2
            refine bodyPost_ret (v := .tuple #[.agg z11, .int .i64 5]) (by simp [results, Tryz.results98, go_sem, u0, d0, d1, d2, d3, d4, d5, d6, d7, d8, d9, d10]) rfl ?_
            rw [HE.out]
            exact ⟨rfl, res_keeps (HK1.out.trans HREL.out.keeps) (set11 _ _ _ _ _ _ _ _ _ _ _)⟩
end Go.Proofs.YtihodcnnappkbaaGreatDoor
