/-
  Rows of the call's own, or slices without length and capacity, whatever their address (what slices.Clone makes of an empty slice). No condition.
-/
import Derived.Test.YtnfefjlplipeiabTouch
namespace Go.Proofs.Ytnfefjlplipeiab
open Go.RowKit

/-- the block that a slice may be written in; of a slice without capacity none -/
def blk : Value → Option Nat
  | .slice (some a) _ c => if c = 0 then none else some a.block
  | _ => none
theorem blk_empty (A : Option Addr) (n : Nat) : blk (.slice A n 0) = none := by
  cases A <;> simp [blk]
theorem blk_at (g o n c : Nat) (h : 0 < c) : blk (.slice (some ⟨g, o, none⟩) n c) = some g := by
  simp [blk]; omega
theorem blk_some {v : Value} {k : Nat} (h : blk v = some k) : v.ownBlock = some k := by
  unfold blk at h
  split at h
  · rename_i a n c
    by_cases hc : c = 0
    · simp [hc] at h
    · simpa [hc, Value.ownBlock] using h
  · cases h

/-- a row of the call's own, or an empty slice without capacity -/
def Loose (w : World) (base : Nat) (e : TypeId) (size : Nat) (v : Value) (n : Nat) (xs : List Value) : Prop :=
  (∃ A, v = .slice A 0 0 ∧ n = 0 ∧ xs = []) ∨ ∃ g cap, v = .slice (some ⟨g, 0, none⟩) n cap ∧ 0 < cap ∧ w.ownsRow base e size v n xs

theorem Loose.of {w : World} {base size n : Nat} {e : TypeId} {v : Value} {xs : List Value} (h : w.ownsRow base e size v n xs) : Loose w base e size v n xs := by
  have h0 := h
  rcases h.2 with ⟨rfl, hn⟩ | ⟨g, cap, cur, rfl, _, _, hnc, _⟩
  · subst hn
    exact .inl ⟨none, rfl, rfl, List.eq_nil_of_length_eq_zero (by simpa using h.1)⟩
  · by_cases hc : cap = 0
    · subst hc
      have : n = 0 := by omega
      subst this
      exact .inl ⟨_, rfl, rfl, List.eq_nil_of_length_eq_zero (by simpa using h.1)⟩
    · exact .inr ⟨g, cap, rfl, by omega, h0⟩
theorem Loose.empty (w : World) (base size : Nat) (e : TypeId) (A : Option Addr) : Loose w base e size (.slice A 0 0) 0 [] := .inl ⟨A, rfl, rfl, rfl⟩
theorem Loose.length {w : World} {base size n : Nat} {e : TypeId} {v : Value} {xs : List Value} (h : Loose w base e size v n xs) : xs.length = n * size := by
  rcases h with ⟨A, _, rfl, rfl⟩ | ⟨_, _, _, _, h⟩
  · simp
  · exact h.1
theorem Loose.lt {w : World} {base size n : Nat} {e : TypeId} {v : Value} {xs : List Value} (h : Loose w base e size v n xs) (k : Nat) (hk : blk v = some k) : base ≤ k ∧ k < w.heap.size := by
  rcases h with ⟨A, rfl, _, _⟩ | ⟨_, _, _, _, h⟩
  · rw [blk_empty] at hk; cases hk
  · exact h.lt k (blk_some hk)
theorem Loose.keep {F : Nat → Prop} {e : TypeId} {w w' : World} {base size n : Nat} {v : Value} {xs : List Value} (h : Loose w base e size v n xs) (ht : Touch F w w') (hF : ∀ k, blk v = some k → ¬ F k) : Loose w' base e size v n xs := by
  rcases h with h | ⟨g, cap, rfl, hc, h⟩
  · exact .inl h
  · refine .inr ⟨g, cap, rfl, hc, ht.own h fun k hk => hF k ?_⟩
    simp only [Value.ownBlock, Option.some.injEq] at hk
    rw [← hk]
    exact blk_at g 0 n cap hc
theorem Loose.below {e : TypeId} {w w' : World} {base size n : Nat} {v : Value} {xs : List Value} (h : Loose w base e size v n xs) (hb : Below w.heap.size w w') : Loose w' base e size v n xs := by
  rcases h with h | ⟨g, cap, hv, hc, h⟩
  · exact .inl h
  · exact .inr ⟨g, cap, hv, hc, World.ownsRow.kept (row := none) h ⟨hb.os, hb.tape, hb.output, hb.size, fun i hi _ => hb.block i hi⟩ (by cases hv : v.ownBlock <;> simp)⟩
theorem Loose.far {w : World} {base size n : Nat} {e : TypeId} {v : Value} {xs : List Value} (h : Loose w base e size v n xs) {p : Addr} (hp : blk v ≠ some p.block) (u : Value) : Loose (w.setCell p u) base e size v n xs :=
  h.keep ((Touch.refl (At p.block) w).setCell p u fun _ => At.self _) fun k hk hF => hp (by rw [hk]; exact congrArg some hF)
theorem Loose.raise {w : World} {b size n : Nat} {e : TypeId} {v : Value} {xs : List Value} (h : Loose w b e size v n xs) (B : Nat) (hB : ∀ k, blk v = some k → B ≤ k) : Loose w B e size v n xs := by
  rcases h with h | ⟨g, cap, rfl, hc, h⟩
  · exact .inl h
  · exact .inr ⟨g, cap, rfl, hc, own_raise h B fun k hk => hB k (by
      simp only [Value.ownBlock, Option.some.injEq] at hk
      rw [← hk]
      exact blk_at g 0 n cap hc)⟩
theorem Loose.lower {w : World} {b size n : Nat} {e : TypeId} {v : Value} {xs : List Value} (h : Loose w b e size v n xs) (B : Nat) (hB : B ≤ b) : Loose w B e size v n xs :=
  h.raise B fun k hk => Nat.le_trans hB (h.lt k hk).1
theorem Loose.ne {w : World} {b g size n : Nat} {e t : TypeId} {v : Value} {xs : List Value} {C : Array Value} {fr : Nat × Nat} (h : Loose w b e size v n xs) (hg : w.heap[g]? = some (.cells C t fr)) (hne : e ≠ t) : blk v ≠ some g := by
  rcases h with ⟨A, rfl, _, _⟩ | ⟨_, _, _, _, h⟩
  · rw [blk_empty]; intro h; cases h
  · exact fun hk => own_obj_ne h hg hne (blk_some hk)
theorem Loose.type_ne {w : World} {b b' s s' n n' : Nat} {e e' : TypeId} {v v' : Value} {xs xs' : List Value} (h : Loose w b e s v n xs) (h' : Loose w b' e' s' v' n' xs') (hne : e ≠ e') (k : Nat) (hk : blk v = some k) : blk v' ≠ some k := by
  rcases h with ⟨A, rfl, _, _⟩ | ⟨_, _, _, _, h⟩
  · rw [blk_empty] at hk; cases hk
  rcases h' with ⟨A, rfl, _, _⟩ | ⟨_, _, _, _, h'⟩
  · rw [blk_empty]; intro h; cases h
  · exact fun hk' => own_type_ne h h' hne k (blk_some hk) (blk_some hk')
theorem Loose.form {w : World} {base size n : Nat} {e : TypeId} {v : Value} {xs : List Value} (h : Loose w base e size v n xs) :
    ∃ A c, v = .slice A n c ∧ n ≤ c ∧ RowAt w A xs ∧ c ≤ 9223372036854775807 ∧ (A = none → c = 0) := by
  rcases h with ⟨A, rfl, rfl, rfl⟩ | ⟨g, cap, rfl, hc, h⟩
  · exact ⟨A, 0, rfl, Nat.le_refl _, RowAt.nil _ _, by omega, fun _ => rfl⟩
  · have h0 := h
    rcases h.2 with ⟨h1, _⟩ | ⟨g', cap', cur, h1, _, _, hnc, hcm, _⟩
    · cases h1
    · injection h1 with h2 h3 h4
      subst h4
      exact ⟨_, _, rfl, hnc, RowAt.own h0, by simpa [maxLen] using hcm, fun h => by cases h⟩
/-- a store into it -/
theorem Loose.store {w : World} {base g size n c : Nat} {e : TypeId} {xs : List Value} (h : Loose w base e size (.slice (some ⟨g, 0, none⟩) n c) n xs) (hn : 0 < n) (i : Nat) (u : Value) :
    Loose (w.setCell ⟨g, i, none⟩ u) base e size (.slice (some ⟨g, 0, none⟩) n c) n (xs.set i u) ∧ w.frozen? ⟨g, i, none⟩ = false := by
  rcases h with ⟨A, h1, h2, _⟩ | ⟨g', cap, h1, hc, h⟩
  · omega
  · exact ⟨.inr ⟨g', cap, h1, hc, (World.ownsRow.stored h i u).1⟩, World.ownsRow.frozenAt h i⟩

/-! ### append -/
theorem run_append_loose {P : Program} (w : World) (base : Nat) (t ty e : TypeId) (z : Value) (size bytes : Nat) (ht : P.underlying t = some (.slice e))
    (hinfo : (P.info? e).map (fun i => (i.zero, i.size, i.bytes)) = some (some z, size, bytes)) (hzs : z.cells.size = size) (hsz : 0 < size)
    (v : Value) (n : Nat) (xs : List Value) (hown : Loose w base e size v n xs)
    (A : Option Addr) (m c : Nat) (news : List Value) (hl : news.length = m * size) (hr : RowAt w A news) (h1 : ∀ u ∈ news, u.oneCell' = true)
    (hlen : n + m ≤ maxLen) (hbytes : (n + m) * bytes ≤ 140737488355328) (hbase : base ≤ w.heap.size) :
    ∃ v' w', (Builtin.append_ #[t, t] ty #[v, .slice A m c]).run P w = .ok v' w' ∧ Loose w' base e size v' (n + m) (xs ++ news) ∧ w.grownBy w' (blk v) ∧ (blk v' = blk v ∨ blk v' = some w.heap.size) ∧ (v' = v ∨ (0 < m ∧ ∃ g c', v' = .slice (some ⟨g, 0, none⟩) (n + m) c')) := by
  rcases hown with ⟨B, rfl, rfl, rfl⟩ | ⟨g, cap, rfl, hc, hown⟩
  · by_cases hm : m = 0
    · subst hm
      have hn : news = [] := List.eq_nil_of_length_eq_zero (by simpa using hl)
      subst hn
      obtain ⟨i0, hi, hzz⟩ := Option.map_eq_some_iff.1 hinfo
      refine ⟨.slice B 0 0, w, ?_, Loose.empty w base size e B, ⟨rfl, rfl, rfl, Nat.le_refl _, fun _ _ _ => rfl⟩, .inl rfl, .inl rfl⟩
      cases B <;> cases A <;> simp [Builtin.append_, run_underlying ht, sizeOf, typeInfo, hi, Builtin.lenOf, Builtin.firstCells, loadCells, loadCellsFrom, storeCells]
    · have hne : 0 < news.length := by rw [hl]; exact Nat.mul_pos (by omega) hsz
      cases A with
      | none =>
        cases news with
        | nil => simp at hne
        | cons u us => obtain ⟨_, h, _⟩ := hr 0 u rfl; cases h
      | some ad =>
        cases B with
        | none =>
          obtain ⟨v', w', hrun, h2, h3, h4⟩ := run_append_row (P := P) w base t ty e z size bytes ht hinfo hzs hsz (.slice none 0 0) 0 [] (World.ownsRow_nil w base e size) (some ad) m c news hl hr h1 hlen hbytes hbase
          have hv' : ∃ g c', v' = .slice (some ⟨g, 0, none⟩) (0 + m) c' ∧ 0 < c' := by
            rcases h2.2 with ⟨_, h⟩ | ⟨g, cap, cur, h, _, _, hc, _⟩
            · omega
            · exact ⟨g, cap, h, by omega⟩
          obtain ⟨g, c', rfl, hc'⟩ := hv'
          refine ⟨_, w', hrun, .inr ⟨g, c', rfl, hc', h2⟩, ⟨h3.os, h3.tape, h3.output, h3.size, fun k hk _ => h3.block k hk (by simp [Value.ownBlock])⟩, .inr ?_, .inr ⟨by omega, g, c', rfl⟩⟩
          rw [blk_at _ _ _ _ hc']
          simpa [Value.ownBlock] using h4
        | some b =>
          obtain ⟨i0, hi, hzz⟩ := Option.map_eq_some_iff.1 hinfo
          simp only [Prod.mk.injEq] at hzz
          obtain ⟨hz0, hz1, hz2⟩ := hzz
          have hcells : ∀ j u, news[j]? = some u → w.cell? (ad.add j) = some u := by
            intro j u hu
            obtain ⟨ad', h', hc⟩ := hr j u hu
            cases h'
            exact hc
          have hrun := run_append_grow (P := P) w t ty e i0 z ht hi hz0 b 0 0 [] (by simp) (fun j v h => by simp at h) ad m c news (by rw [hz1]; exact hl) hcells (by omega) (by simp only [maxLen] at hlen; omega) (growslice_fits (by omega) (by rw [hz2]; exact hbytes))
          have hge := grownCap_ge w (0 + m) 0 e
          have hcm : grownCap w (0 + m) 0 e ≤ maxLen := grownCap_le_maxLen w (0 + m) 0 e hlen
          simp only [Nat.zero_add, List.nil_append] at hrun hge hcm ⊢
          refine ⟨_, _, hrun, .inr ⟨w.heap.size, _, rfl, by omega, ⟨by simpa using hl, .inr ⟨w.heap.size, _, _, rfl, hbase, heap_alloc_new w.drew _, hge, hcm, ?_, ?_⟩⟩⟩, ⟨rfl, rfl, rfl, by simp, fun k hk _ => Below.heap_alloc w.drew _ k hk⟩, .inr (blk_at _ _ _ _ (by omega)), .inr ⟨by omega, _, _, rfl⟩⟩
          · simp only [Array.size_append, List.size_toArray, size_zeroCells, hzs, List.length_nil, hl, Nat.zero_add, ← Nat.add_mul]
            congr 1
            omega
          · simp only [Array.toList_append, List.nil_append]
            rw [← hl]
            exact List.take_left
  · obtain ⟨v', w', hrun, h2, h3, h4⟩ := run_append_row (P := P) w base t ty e z size bytes ht hinfo hzs hsz _ n xs hown A m c news hl hr h1 hlen hbytes hbase
    have hv' : ∃ g' c', v' = .slice (some ⟨g', 0, none⟩) (n + m) c' ∧ n + m ≤ c' := by
      rcases h2.2 with ⟨h, _⟩ | ⟨g', cap', cur, h, _, _, hc, _⟩
      · subst h
        rcases h4 with h | h <;> simp [Value.ownBlock] at h
      · exact ⟨g', cap', h, by omega⟩
    obtain ⟨g', c', rfl, hc'⟩ := hv'
    have e1 : blk (.slice (some ⟨g, 0, none⟩) n cap) = some g := blk_at _ _ _ _ hc
    by_cases hc0 : c' = 0
    · -- no room, no bytes: then nothing was laid
      exfalso
      subst hc0
      have hm : m = 0 := by omega
      have hn : n = 0 := by omega
      subst hm
      subst hn
      obtain ⟨i0, hi, hzz⟩ := Option.map_eq_some_iff.1 hinfo
      have hn : news = [] := List.eq_nil_of_length_eq_zero (by simpa using hl)
      subst hn
      have hru : (Builtin.append_ #[t, t] ty #[.slice (some ⟨g, 0, none⟩) 0 cap, .slice A 0 c]).run P w = .ok (.slice (some ⟨g, 0, none⟩) 0 cap) w := by
        cases A <;> simp [Builtin.append_, run_underlying ht, sizeOf, typeInfo, hi, Builtin.lenOf, Builtin.firstCells, loadCells, loadCellsFrom, storeCells]
      rw [hru] at hrun
      injection hrun with h5 h6
      injection h5 with h7 h8 h9
      omega
    · have e2 : blk (.slice (some ⟨g', 0, none⟩) (n + m) c') = some g' := blk_at _ _ _ _ (by omega)
      refine ⟨_, w', hrun, .inr ⟨g', c', rfl, by omega, h2⟩, by rw [e1]; exact h3, ?_, ?_⟩
      · rw [e1, e2]
        simpa [Value.ownBlock] using h4
      · by_cases hm : m = 0
        · subst hm
          obtain ⟨i0, hi, hzz⟩ := Option.map_eq_some_iff.1 hinfo
          have hn : news = [] := List.eq_nil_of_length_eq_zero (by simpa using hl)
          subst hn
          have hnc : n ≤ cap := by
            rcases hown.2 with ⟨h, _⟩ | ⟨g2, cap2, cur, h, _, _, hnc, _⟩
            · cases h
            · injection h with h7 h8 h9; omega
          have hru : (Builtin.append_ #[t, t] ty #[.slice (some ⟨g, 0, none⟩) n cap, .slice A 0 c]).run P w = .ok (.slice (some ⟨g, 0, none⟩) n cap) w := by
            cases A <;> simp [Builtin.append_, run_underlying ht, sizeOf, typeInfo, hi, Builtin.lenOf, Builtin.firstCells, loadCells, loadCellsFrom, storeCells, hnc]
          rw [hru] at hrun
          injection hrun with h5 h6
          exact .inl h5.symm
        · exact .inr ⟨by omega, g', c', rfl⟩

/-! ### bytes -/
def OwnL (e : TypeId) (w : World) (base : Nat) (v : Value) (l : List UInt8) : Prop := Loose w base e 1 v l.length (u8s l)
theorem OwnL.of {e : TypeId} {w : World} {base : Nat} {v : Value} {l : List UInt8} (h : OwnB e w base v l) : OwnL e w base v l := Loose.of h
theorem OwnL.empty (e : TypeId) (w : World) (base : Nat) (A : Option Addr) : OwnL e w base (.slice A 0 0) [] := Loose.empty w base 1 e A
theorem OwnL.form {e : TypeId} {w : World} {base : Nat} {v : Value} {l : List UInt8} (h : OwnL e w base v l) : ∃ A c, v = .slice A l.length c ∧ l.length ≤ c ∧ Reads w A l ∧ c ≤ 9223372036854775807 ∧ (A = none → c = 0) := Loose.form h
theorem OwnL.keep {F : Nat → Prop} {e : TypeId} {w w' : World} {base : Nat} {v : Value} {l : List UInt8} (h : OwnL e w base v l) (ht : Touch F w w') (hF : ∀ k, blk v = some k → ¬ F k) : OwnL e w' base v l := Loose.keep h ht hF
theorem OwnL.below {e : TypeId} {w w' : World} {base : Nat} {v : Value} {l : List UInt8} (h : OwnL e w base v l) (hb : Below w.heap.size w w') : OwnL e w' base v l := Loose.below h hb
theorem OwnL.far {e : TypeId} {w : World} {base : Nat} {v : Value} {l : List UInt8} (h : OwnL e w base v l) {p : Addr} (hp : blk v ≠ some p.block) (u : Value) : OwnL e (w.setCell p u) base v l := Loose.far h hp u
theorem OwnL.ne {w : World} {b g : Nat} {e t : TypeId} {v : Value} {l : List UInt8} {C : Array Value} {fr : Nat × Nat} (h : OwnL e w b v l) (hg : w.heap[g]? = some (.cells C t fr)) (hne : e ≠ t) : blk v ≠ some g := Loose.ne h hg hne
theorem OwnL.lt {e : TypeId} {w : World} {base : Nat} {v : Value} {l : List UInt8} (h : OwnL e w base v l) (k : Nat) (hk : blk v = some k) : base ≤ k ∧ k < w.heap.size := Loose.lt h k hk
theorem OwnL.raise {e : TypeId} {w : World} {b : Nat} {v : Value} {l : List UInt8} (h : OwnL e w b v l) (B : Nat) (hB : ∀ k, blk v = some k → B ≤ k) : OwnL e w B v l := Loose.raise h B hB
theorem OwnL.lower {e : TypeId} {w : World} {b : Nat} {v : Value} {l : List UInt8} (h : OwnL e w b v l) (B : Nat) (hB : B ≤ b) : OwnL e w B v l := Loose.lower h B hB
/-- fewer of its bytes -/
theorem OwnL.prefix {e : TypeId} {w : World} {base : Nat} {A : Option Addr} {n c m : Nat} {l : List UInt8} (h : OwnL e w base (.slice A n c) l) (hm : m ≤ l.length) : OwnL e w base (.slice A m c) (l.take m) := by
  have hl : (l.take m).length = m := by rw [List.length_take]; omega
  rcases h with ⟨A', h1, h2, h3⟩ | ⟨g, cap, h1, hc, h⟩
  · injection h1 with h4 h5 h6
    subst h6
    have : m = 0 := by omega
    subst this
    exact .inl ⟨A, rfl, by simp, by simp [u8s]⟩
  · injection h1 with h4 h5 h6
    subst h4
    subst h6
    refine .inr ⟨g, c, by rw [hl], hc, ?_⟩
    have h1 := h.1
    rw [hl]
    refine ⟨by rw [u8s_length, hl]; omega, ?_⟩
    rcases h.2 with ⟨h0, hn⟩ | ⟨g, cap, cur, h0, hb, hg, hnc, hcm, hs, htk⟩
    · cases h0
    · injection h0 with h2 h3 h4
      injection h2 with h2
      injection h2 with h2
      subst h2
      subst h4
      refine .inr ⟨_, c, cur, rfl, hb, hg, by omega, hcm, hs, ?_⟩
      rw [u8s_take, ← htk, List.take_take]
      congr 1
      omega
/-- a store -/
theorem OwnL.store {e : TypeId} {w : World} {base g c : Nat} {l : List UInt8} (h : OwnL e w base (.slice (some ⟨g, 0, none⟩) l.length c) l) (i : Nat) (hi : i < l.length) (b : UInt8) :
    OwnL e (w.setCell ⟨g, i, none⟩ (.int .u8 ((b.toNat : Nat) : Int))) base (.slice (some ⟨g, 0, none⟩) l.length c) (l.set i b) ∧ w.cell? ⟨g, i, none⟩ = some (.int .u8 (((l[i]'hi).toNat : Nat) : Int)) ∧ w.frozen? ⟨g, i, none⟩ = false := by
  have hs := Loose.store h (by omega) i (.int .u8 ((b.toNat : Nat) : Int))
  have he : (u8s l).set i (.int .u8 ((b.toNat : Nat) : Int)) = u8s (l.set i b) := by simp [u8s, List.map_set]
  rw [he] at hs
  refine ⟨by unfold OwnL; rw [List.length_set]; exact hs.1, ?_, hs.2⟩
  obtain ⟨A, c', e1, _, hr, _⟩ := h.form
  injection e1 with e1 e2 e3
  subst e1
  obtain ⟨ad, e1, hc⟩ := hr.out i hi
  cases e1
  rw [addr_add_mk] at hc
  simpa using hc
/-- where there is a byte there is a block -/
theorem OwnL.block {e : TypeId} {w : World} {base : Nat} {v : Value} {l : List UInt8} (h : OwnL e w base v l) (hp : 0 < l.length) : ∃ g c, v = .slice (some ⟨g, 0, none⟩) l.length c ∧ base ≤ g ∧ g < w.heap.size ∧ l.length ≤ c ∧ blk v = some g := by
  have hf := h.form
  have hlt := h.lt
  rcases h with ⟨A, rfl, h2, _⟩ | ⟨g, cap, rfl, hc, h⟩
  · omega
  · obtain ⟨A, c', e1, hle, _⟩ := hf
    injection e1 with e1 e2 e3
    have hb := blk_at g 0 l.length cap hc
    exact ⟨g, cap, rfl, (hlt g hb).1, (hlt g hb).2, by omega, hb⟩

section
variable {P : Program} {ops : Array Oper} {rest : List Oper} {o : Oper} {a : Act} {w : World} {K : Act → World → Prop} {Q : Exit → Act → World → Prop} {E : Prop}
/-- bytes onto bytes, as one step of a region that draws -/
theorem step_append_loose (base : Nat) (hgd : o.guard = none) (s x : Operand) (t e : TypeId)
    (ho : o.op = .call { callee := .builtin .append, args := #[s, x], argTypes := #[t, t] })
    (ht : P.underlying t = some (.slice e)) (hinfo : (P.info? e).map (fun i => (i.zero, i.size, i.bytes)) = some (some (.int .u8 0), 1, 1))
    (v : Value) (l m : List UInt8) (hs : a.eval s = v) (hown : OwnL e w base v l)
    (A : Option Addr) (c : Nat) (hx : a.eval x = .slice A m.length c) (hr : Reads w A m)
    (hlen : l.length + m.length ≤ 140737488355328) (hbase : base ≤ w.heap.size)
    (h : ∀ v' w', OwnL e w' base v' (l ++ m) → w.grownBy w' (blk v) → (blk v' = blk v ∨ blk v' = some w.heap.size) → K (a.put o.dst v') w') :
    if Region.wanted o (yielded ops a.tmps) = true then Oper.wp P o a w K Q else E := by
  have hw : Region.wanted o (yielded ops a.tmps) = true := by simp [Region.wanted, hgd]
  rw [if_pos hw]
  obtain ⟨v', w', hrun, h2, h3, h4, _⟩ := run_append_loose (P := P) w base t o.type e (.int .u8 0) 1 1 ht hinfo rfl (by omega) v l.length (u8s l) hown A m.length c (u8s m) (by rw [u8s_length]; omega) hr (u8s_one m) (by simp only [maxLen]; omega) (by omega) hbase
  unfold Oper.wp execOp
  simp only [ho, resolve, invoke, builtin, Sem.run_bind, Sem.run_pure, Result.andThen_ok, List.map_toArray, List.map_cons, List.map_nil, hs, hx, hrun]
  exact h _ _ (by unfold OwnL; rw [u8s_append, List.length_append]; exact h2) h3 h4
/-- rows onto rows, as one step of a region that draws -/
theorem step_append_rows (base : Nat) (hgd : o.guard = none) (s x : Operand) (t e : TypeId) (z : Value) (size bytes : Nat)
    (ho : o.op = .call { callee := .builtin .append, args := #[s, x], argTypes := #[t, t] })
    (ht : P.underlying t = some (.slice e)) (hinfo : (P.info? e).map (fun i => (i.zero, i.size, i.bytes)) = some (some z, size, bytes)) (hzs : z.cells.size = size) (hsz : 0 < size)
    (v : Value) (n : Nat) (xs : List Value) (hs : a.eval s = v) (hown : Loose w base e size v n xs)
    (A : Option Addr) (m c : Nat) (news : List Value) (hx : a.eval x = .slice A m c) (hl : news.length = m * size) (hr : RowAt w A news) (h1 : ∀ u ∈ news, u.oneCell' = true)
    (hlen : n + m ≤ maxLen) (hbytes : (n + m) * bytes ≤ 140737488355328) (hbase : base ≤ w.heap.size)
    (h : ∀ v' w', Loose w' base e size v' (n + m) (xs ++ news) → w.grownBy w' (blk v) → (blk v' = blk v ∨ blk v' = some w.heap.size) → K (a.put o.dst v') w') :
    if Region.wanted o (yielded ops a.tmps) = true then Oper.wp P o a w K Q else E := by
  have hw : Region.wanted o (yielded ops a.tmps) = true := by simp [Region.wanted, hgd]
  rw [if_pos hw]
  obtain ⟨v', w', hrun, h2, h3, h4, _⟩ := run_append_loose (P := P) w base t o.type e z size bytes ht hinfo hzs hsz v n xs hown A m c news hl hr h1 hlen hbytes hbase
  unfold Oper.wp execOp
  simp only [ho, resolve, invoke, builtin, Sem.run_bind, Sem.run_pure, Result.andThen_ok, List.map_toArray, List.map_cons, List.map_nil, hs, hx, hrun]
  exact h _ _ h2 h3 h4
/-- rows onto rows, in a list of operations -/
theorem wpList_append_rows (base : Nat) (hgd : o.guard = none) (s x : Operand) (t e : TypeId) (z : Value) (size bytes : Nat)
    (ho : o.op = .call { callee := .builtin .append, args := #[s, x], argTypes := #[t, t] })
    (ht : P.underlying t = some (.slice e)) (hinfo : (P.info? e).map (fun i => (i.zero, i.size, i.bytes)) = some (some z, size, bytes)) (hzs : z.cells.size = size) (hsz : 0 < size)
    (v : Value) (n : Nat) (xs : List Value) (hs : a.eval s = v) (hown : Loose w base e size v n xs)
    (A : Option Addr) (m c : Nat) (news : List Value) (hx : a.eval x = .slice A m c) (hl : news.length = m * size) (hr : RowAt w A news) (h1 : ∀ u ∈ news, u.oneCell' = true)
    (hlen : n + m ≤ maxLen) (hbytes : (n + m) * bytes ≤ 140737488355328) (hbase : base ≤ w.heap.size)
    (h : ∀ v' w', Loose w' base e size v' (n + m) (xs ++ news) → w.grownBy w' (blk v) → (blk v' = blk v ∨ blk v' = some w.heap.size) → wpList P ops Q rest (a.put o.dst v') w') :
    wpList P ops Q (o :: rest) a w := by
  refine wpList_plain hgd fun K hK => ?_
  obtain ⟨v', w', hrun, h2, h3, h4, _⟩ := run_append_loose (P := P) w base t o.type e z size bytes ht hinfo hzs hsz v n xs hown A m c news hl hr h1 hlen hbytes hbase
  unfold Oper.wp execOp
  simp only [ho, resolve, invoke, builtin, Sem.run_bind, Sem.run_pure, Result.andThen_ok, List.map_toArray, List.map_cons, List.map_nil, hs, hx, hrun]
  exact hK _ _ (h v' w' h2 h3 h4)
/-- bytes onto bytes, in a list of operations -/
theorem wpList_append_loose (base : Nat) (hgd : o.guard = none) (s x : Operand) (t e : TypeId)
    (ho : o.op = .call { callee := .builtin .append, args := #[s, x], argTypes := #[t, t] })
    (ht : P.underlying t = some (.slice e)) (hinfo : (P.info? e).map (fun i => (i.zero, i.size, i.bytes)) = some (some (.int .u8 0), 1, 1))
    (v : Value) (l m : List UInt8) (hs : a.eval s = v) (hown : OwnL e w base v l)
    (A : Option Addr) (c : Nat) (hx : a.eval x = .slice A m.length c) (hr : Reads w A m)
    (hlen : l.length + m.length ≤ 140737488355328) (hbase : base ≤ w.heap.size)
    (h : ∀ v' w', OwnL e w' base v' (l ++ m) → w.grownBy w' (blk v) → (blk v' = blk v ∨ blk v' = some w.heap.size) → wpList P ops Q rest (a.put o.dst v') w') :
    wpList P ops Q (o :: rest) a w :=
  wpList_append_rows base hgd s x t e (.int .u8 0) 1 1 ho ht hinfo rfl (by omega) v l.length (u8s l) hs hown A m.length c (u8s m) hx (by rw [u8s_length]; omega) hr (u8s_one m) (by simp only [maxLen]; omega) (by omega) hbase
    fun v' w' h2 h3 h4 => h v' w' (by unfold OwnL; rw [u8s_append, List.length_append]; exact h2) h3 h4
end
/-- what is new grows -/
theorem Keeps.trans' {a b c : World} {row : Option Nat} (h : Keeps a b) (k : b.grownBy c row) (hr : ∀ j, row = some j → a.heap.size ≤ j) : Keeps a c :=
  Touch.nothing (F := fun _ => False) ((Touch.of_below h.below fun k hk h => absurd hk (by omega)).grown k fun i e hi => absurd (hr i e) (by omega)) fun _ _ h => h
theorem OwnL.reads {e : TypeId} {w : World} {base n c : Nat} {A : Option Addr} {l : List UInt8} (h : OwnL e w base (.slice A n c) l) : Reads w A l := by
  obtain ⟨A', c', e1, _, hr, _⟩ := h.form
  injection e1 with e1 e2 e3
  rw [e1]
  exact hr
end Go.Proofs.Ytnfefjlplipeiab
