/-
  The walk of spoils: it writes over the runs' own blocks, and over no others. Condition: the slice is of the call's own runs.
-/
import Derived.Test.YtnfefjlplipeiaaSplitFeed
namespace Go.Proofs.Ytnfefjlplipeiaa
open Go.RowKit
set_option linter.unusedVariables false
set_option linter.unusedSimpArgs false

/-- each block has its length and its type still -/
def Shaped (w w' : World) : Prop := ∀ (j : Nat) (C : Array Value) (t : TypeId), w.heap[j]? = some (.cells C t (0, 0)) → ∃ C' : Array Value, w'.heap[j]? = some (.cells C' t (0, 0)) ∧ C'.size = C.size
theorem Shaped.refl (w : World) : Shaped w w := fun j C t h => ⟨C, h, rfl⟩
theorem Shaped.trans {a b c : World} (h : Shaped a b) (k : Shaped b c) : Shaped a c := by
  intro j C t hj
  obtain ⟨C1, h1, e1⟩ := h j C t hj
  obtain ⟨C2, h2, e2⟩ := k j C1 t h1
  exact ⟨C2, h2, by rw [e2, e1]⟩
theorem Shaped.alloc {a b : World} (h : Shaped a b) (o : Obj) : Shaped a (b.alloc o) := h.trans fun j C t hj => ⟨C, obj_old hj o, rfl⟩
theorem Shaped.set {a b : World} (h : Shaped a b) (g i : Nat) (u : Value) : Shaped a (b.setCell ⟨g, i, none⟩ u) := h.trans fun j C t hj => by
  by_cases e : j = g
  · subst e
    exact ⟨C.setIfInBounds i u, obj_set hj i u, by simp⟩
  · exact ⟨C, obj_far hj (p := ⟨g, i, none⟩) e u, rfl⟩

set_option maxHeartbeats 1000000 in
theorem spoils_some (g n cap : Nat) (cur : Array Value) (F : Nat → Prop) (rs : List Run) (cells : List Value) (w : World) (hg : w.heap[g]? = some (.cells cur 42 (0, 0))) (hn : rs.length ≤ cap) (hcap : cap ≤ 9223372036854775807) (hcs : cur.size = cap * 2) (htk : cur.toList.take (rs.length * 2) = cells) (hF : F g)
    (hel : ∀ i (hi : i < rs.length), ∃ bv, cells[2 * i]? = some (.int .i64 ((rs[i]'hi).1 : Int)) ∧ cells[2 * i + 1]? = some bv ∧ OwnB 5 w 0 bv (rs[i]'hi).2 ∧ ∀ k, bv.ownBlock = some k → F k) :
    Calls Try.prog 16 #[.slice (some ⟨g, 0, none⟩) rs.length cap] w fun e w' => e = .returned (.tuple #[]) ∧ Touch F w w' := by
  have HG := Lib.hid hg
  have HE := Lib.hid hel
  have HCS := Lib.hid hcs
  have HTK := Lib.hid htk
  clear hg hel hcs htk
  go_enter Try.func16, Try.ntmps16
  go_wp2
  go_loopw [10] (fun i wr => ∃ k : Nat, k ≤ rs.length ∧ i = .int .i64 (k : Int) ∧ Touch (fun j => F j ∧ j ≠ g) w wr ∧ Shaped w wr) (fun i _ => rs.length - (intOf i).toNat)
  case atStart => exact ⟨0, Nat.zero_le _, rfl, Touch.refl _ _, Shaped.refl _⟩
  case round =>
    obtain ⟨k, hk, rfl, ht, hsh⟩ := hrel
    have HT := Lib.hid ht
    have HSH := Lib.hid hsh
    clear ht hsh
    by_cases hlt : k < rs.length
    · obtain ⟨bv, x1, x2, x3, x4⟩ := HE.out k hlt
      have hgr : wr.heap[g]? = some (.cells cur 42 (0, 0)) := HT.out.obj HG.out (fun h => h.2 rfl)
      have hrow : RowAt wr (some ⟨g, 0, none⟩) cells := RowAt.of_row hgr _ _ HTK.out
      obtain ⟨ad, e1, y1⟩ := hrow _ _ x1
      cases e1
      obtain ⟨ad, e1, y2⟩ := hrow _ _ x2
      cases e1
      rw [addr_add_mk] at y1 y2
      rw [show 0 + 2 * k = k * 2 by omega] at y1
      rw [show 0 + (2 * k + 1) = k * 2 + 1 by omega] at y2
      have hgs := obj_lt hgr
      rcases x3.2 with ⟨rfl, hnil⟩ | ⟨gb, cb, bcur, rfl, _, hgb, hbn, hbm, hbs, _⟩
      · clear x1 x2 x3 x4 hgr hrow
        go_wp2
        go_loopw [22] (fun i wz => i = .int .i64 0 ∧ wz = wr.alloc (.cells #[.int .i64 ((rs[k]'hlt).1 : Int), .slice none 0 0] 42)) (fun _ _ => 0)
        case atStart => exact ⟨rfl, rfl⟩
        case round =>
          obtain ⟨rfl, rfl⟩ := hrel
          go_wp2
          exact ⟨⟨k + 1, by omega, by go_num, HT.out.alloc _, HSH.out.alloc _⟩, by simp [intOf]; omega⟩
      · have hne : gb ≠ g := by
          intro e
          subst e
          rw [HG.out] at hgb
          injection hgb with h1
          injection h1 with h2 h3 h4
          revert h3
          decide
        have hFb : F gb := x4 gb rfl
        obtain ⟨bc2, hgb2, hbs2⟩ := HSH.out gb bcur _ hgb
        have HGB := Lib.hid (show ∃ C : Array Value, wr.heap[gb]? = some (.cells C 5 (0, 0)) ∧ C.size = cb from ⟨bc2, hgb2, by omega⟩)
        have hbm' : cb ≤ 9223372036854775807 := by simpa [maxLen] using hbm
        have HT1 := Lib.hid (HT.out.alloc (.cells #[.int .i64 ((rs[k]'hlt).1 : Int), .slice (some ⟨gb, 0, none⟩) (rs[k]'hlt).2.length cb] 42))
        have HS1 := Lib.hid (HSH.out.alloc (.cells #[.int .i64 ((rs[k]'hlt).1 : Int), .slice (some ⟨gb, 0, none⟩) (rs[k]'hlt).2.length cb] 42))
        have HGB1 := Lib.hid (show ∃ C : Array Value, (wr.alloc (.cells #[.int .i64 ((rs[k]'hlt).1 : Int), .slice (some ⟨gb, 0, none⟩) (rs[k]'hlt).2.length cb] 42)).heap[gb]? = some (.cells C 5 (0, 0)) ∧ C.size = cb from ⟨bc2, obj_old hgb2 _, by omega⟩)
        clear x1 x2 x3 x4 hgr hrow hgb hbs hgb2 hbs2 hbm
        go_wp2
        generalize wr.alloc (.cells #[.int .i64 ((rs[k]'hlt).1 : Int), .slice (some ⟨gb, 0, none⟩) (rs[k]'hlt).2.length cb] 42) = wb at *
        go_loopw [22] (fun i wz => ∃ q : Nat, q ≤ cb ∧ i = .int .i64 (q : Int) ∧ Touch (At gb) wb wz ∧ Shaped wb wz) (fun i _ => cb - (intOf i).toNat)
        case atStart => exact ⟨0, Nat.zero_le _, rfl, Touch.refl _ _, Shaped.refl _⟩
        case round =>
          obtain ⟨q, hq, rfl, ht2, hs2⟩ := hrel
          have HT2 := Lib.hid ht2
          have HS2 := Lib.hid hs2
          clear ht2 hs2
          by_cases hqlt : q < cb
          · obtain ⟨C, hC, hCs⟩ := HGB1.out
            obtain ⟨C2, hC2, hC2s⟩ := HS2.out gb C _ hC
            obtain ⟨x, z1⟩ : ∃ x, wr.cell? ⟨gb, q, none⟩ = some x := ⟨_, by rw [obj_cell hC2 q]; exact Array.getElem?_eq_getElem (show q < C2.size by omega)⟩
            have z2 := obj_frozen hC2 q
            clear hC hCs hC2 hC2s
            go_wp2
            exact ⟨⟨q + 1, by omega, by go_num, HT2.out.set _ _, HS2.out.set _ _ _⟩, by simp [intOf]; omega⟩
          · go_wp2
            exact ⟨⟨k + 1, by omega, by go_num, HT1.out.trans HT2.out (fun i _ e => by cases e; exact ⟨hFb, hne⟩), HS1.out.trans HS2.out⟩, by simp [intOf]; omega⟩
    · have HT1 := Lib.hid (show Touch F w wr from HT.out.mono fun _ _ h => h.1)
      obtain ⟨C, hC, hCs⟩ := HSH.out g cur _ HG.out
      have HGC := Lib.hid (show ∃ C : Array Value, wr.heap[g]? = some (.cells C 42 (0, 0)) ∧ C.size = cap * 2 from ⟨C, hC, by rw [hCs]; exact HCS.out⟩)
      clear hC hCs HT HSH HE HCS HTK HG
      go_wp2
      go_loopw [36] (fun i wz => ∃ q : Nat, q ≤ cap ∧ i = .int .i64 (q : Int) ∧ Touch F w wz ∧ Shaped wr wz) (fun i _ => cap - (intOf i).toNat)
      case atStart => exact ⟨0, Nat.zero_le _, rfl, HT1.out, Shaped.refl _⟩
      case round =>
        obtain ⟨q, hq, rfl, ht2, hs2⟩ := hrel
        have HT2 := Lib.hid ht2
        have HS2 := Lib.hid hs2
        clear ht2 hs2
        by_cases hqlt : q < cap
        · obtain ⟨C, hC, hCs⟩ := HGC.out
          obtain ⟨C2, hC2, hC2s⟩ := HS2.out g C _ hC
          obtain ⟨x, z1⟩ : ∃ x, wr.cell? ⟨g, q * 2, none⟩ = some x := ⟨_, by rw [obj_cell hC2 (q * 2)]; exact Array.getElem?_eq_getElem (show q * 2 < C2.size by omega)⟩
          have z2 := obj_frozen hC2 (q * 2)
          clear hC hCs hC2 hC2s
          go_wp2
          exact ⟨⟨q + 1, by omega, by go_num, HT2.out.setCell _ _ (fun _ => hF), HS2.out.set _ _ _⟩, by simp [intOf]; omega⟩
        · go_wp2
          go_end0
          exact ⟨rfl, HT2.out⟩

set_option maxHeartbeats 1000000 in
theorem spoils_nil (w : World) : Calls Try.prog 16 #[.slice none 0 0] w fun e w' => e = .returned (.tuple #[]) ∧ w = w' := by
  go_enter Try.func16, Try.ntmps16
  go_wp2
  go_loopw [10] (fun i wr => i = .int .i64 0 ∧ wr = w) (fun _ _ => 0)
  case atStart => exact ⟨rfl, rfl⟩
  case round =>
    obtain ⟨rfl, rfl⟩ := hrel
    go_wp2
    go_loopw [36] (fun i wz => i = .int .i64 0 ∧ wz = wr) (fun _ _ => 0)
    case atStart => exact ⟨rfl, rfl⟩
    case round =>
      obtain ⟨rfl, rfl⟩ := hrel
      go_wp2
      go_end0
      exact ⟨rfl, rfl⟩

theorem spoils_calls (F : Nat → Prop) (v : Value) (rs : List Run) (w : World) (h : OwnRuns w F v rs) :
    Calls Try.prog 16 #[v] w fun e w' => e = .returned (.tuple #[]) ∧ Touch F w w' := by
  obtain ⟨cells, h1, h2, h3⟩ := h
  rcases h1.2 with ⟨rfl, _⟩ | ⟨g, cap, cur, rfl, _, hg, hn, hm, hs, htk⟩
  · exact (spoils_nil w).mono fun e w' ⟨he, hw⟩ => ⟨he, hw ▸ Touch.refl _ _⟩
  · exact spoils_some g rs.length cap cur F rs cells w hg hn (by simpa [maxLen] using hm) hs htk (h2 g rfl) h3
end Go.Proofs.Ytnfefjlplipeiaa
