/-
  Which blocks a call may have written: 'Touch F w w'': of the blocks that were there only those in F may have turned. No condition.
-/
import Derived.Test.YtnfefjlplipeiabKit
import Derived.Laws.EntriesVeiled
import Derived.Laws.NewBlocks
import Derived.RegionTactic
namespace Go.Proofs.Ytnfefjlplipeiab
open Go.RowKit

structure Touch (F : Nat → Prop) (w w' : World) : Prop where
  os : w'.os = w.os
  tape : w'.tape = w.tape
  output : w'.output = w.output
  size : w.heap.size ≤ w'.heap.size
  block : ∀ k, k < w.heap.size → ¬ F k → w'.heap[k]? = w.heap[k]?

theorem Touch.refl (F : Nat → Prop) (w : World) : Touch F w w := ⟨rfl, rfl, rfl, Nat.le_refl _, fun _ _ _ => rfl⟩
theorem Touch.trans {F G : Nat → Prop} {a b c : World} (h : Touch F a b) (k : Touch G b c) (hG : ∀ i, i < a.heap.size → G i → F i) : Touch F a c :=
  ⟨k.os.trans h.os, k.tape.trans h.tape, k.output.trans h.output, Nat.le_trans h.size k.size, fun i hi hF => (k.block i (Nat.lt_of_lt_of_le hi h.size) (fun hg => hF (hG i hi hg))).trans (h.block i hi hF)⟩
theorem Touch.mono {F G : Nat → Prop} {a b : World} (h : Touch F a b) (hF : ∀ i, i < a.heap.size → F i → G i) : Touch G a b :=
  ⟨h.os, h.tape, h.output, h.size, fun i hi hG => h.block i hi (fun hf => hG (hF i hi hf))⟩
theorem Touch.then {F : Nat → Prop} {a b c : World} (h : Touch F a b) (k : Touch F b c) : Touch F a c := h.trans k fun _ _ h => h
theorem Touch.alloc {F : Nat → Prop} {a b : World} (h : Touch F a b) (o : Obj) : Touch F a (b.alloc o) :=
  h.then ⟨rfl, rfl, rfl, by simp, fun k hk _ => Below.heap_alloc _ _ _ hk⟩
theorem Touch.setCell {F : Nat → Prop} {a b : World} (h : Touch F a b) (p : Addr) (u : Value) (hp : p.block < a.heap.size → F p.block) : Touch F a (b.setCell p u) :=
  ⟨h.os, h.tape, h.output, by simpa [World.setCell] using h.size, fun k hk hF => by
    rw [Below.heap_setCell _ _ _ _ (fun e : k = p.block => hF (by rw [e]; exact hp (by rw [← e]; exact hk)))]; exact h.block k hk hF⟩
theorem Touch.drewN {F : Nat → Prop} {a b : World} (h : Touch F a b) (n : Nat) : Touch F a (b.drewN n) := h.then ⟨rfl, rfl, rfl, Nat.le_refl _, fun _ _ _ => rfl⟩
theorem Touch.drew {F : Nat → Prop} {a b : World} (h : Touch F a b) : Touch F a b.drew := h.drewN 1
theorem Touch.quiet {F : Nat → Prop} {a b c : World} (h : Touch F a b) (k : Quiet b c) : Touch F a c := by
  obtain ⟨n, rfl⟩ := k
  exact h.drewN n
theorem Touch.of_below {F : Nat → Prop} {B : Nat} {w w' : World} (h : Below B w w') (hF : ∀ k, k < w.heap.size → B ≤ k → F k) : Touch F w w' :=
  ⟨h.os, h.tape, h.output, h.size, fun k hk hf => h.block k (Nat.lt_of_not_le fun hb => hf (hF k hk hb))⟩
theorem Touch.below {F : Nat → Prop} {a b c : World} (h : Touch F a b) (k : Below b.heap.size b c) : Touch F a c := h.then (Touch.of_below k fun i hi hb => absurd hi (by omega))
theorem Touch.of_grown {F : Nat → Prop} {row : Option Nat} {w w' : World} (h : w.grownBy w' row) (hF : ∀ k, row = some k → F k) : Touch F w w' :=
  ⟨h.os, h.tape, h.output, h.size, fun k hk hf => h.block k hk (fun e => hf (hF k e.symm))⟩
theorem Touch.grown {F : Nat → Prop} {a b c : World} {row : Option Nat} (h : Touch F a b) (k : b.grownBy c row) (hF : ∀ i, row = some i → i < a.heap.size → F i) : Touch F a c :=
  h.trans (G := fun i => row = some i) (Touch.of_grown k fun _ e => e) fun i hi e => hF i e hi
theorem Touch.to_below {F : Nat → Prop} {w w' : World} (h : Touch F w w') (B : Nat) (hB : ∀ k, F k → k < w.heap.size → B ≤ k) (hBs : B ≤ w.heap.size) : Below B w w' :=
  ⟨h.os, h.tape, h.output, h.size, fun k hk => h.block k (by omega) (fun hf => by have := hB k hf (by omega); omega)⟩
/-- nothing that was there -/
theorem Touch.nothing {F : Nat → Prop} {w w' : World} (h : Touch F w w') (hF : ∀ k, k < w.heap.size → ¬ F k) : Below w.heap.size w w' := h.to_below _ (fun k hf hk => absurd hf (hF k hk)) (Nat.le_refl _)

/-- the one block g -/
def At (g : Nat) : Nat → Prop := fun k => k = g
theorem At.self (g : Nat) : At g g := rfl
theorem Touch.set {g : Nat} {a b : World} (h : Touch (At g) a b) (i : Nat) (u : Value) : Touch (At g) a (b.setCell ⟨g, i, none⟩ u) := h.setCell _ _ fun _ => At.self g
theorem Touch.cell {F : Nat → Prop} {w w' : World} (h : Touch F w w') {p : Addr} {v : Value} (hc : w.cell? p = some v) (hp : ¬ F p.block) : w'.cell? p = some v := by
  rw [World.cell?_of_block (w := w) (h.block p.block (World.block_lt_of_cell? w p hc) hp)]; exact hc
theorem Touch.obj {F : Nat → Prop} {w w' : World} (h : Touch F w w') {g : Nat} {o : Obj} (hg : w.heap[g]? = some o) (hF : ¬ F g) : w'.heap[g]? = some o := by
  rw [h.block g (Array.getElem?_eq_some_iff.1 hg).1 hF]; exact hg
theorem Touch.own {F : Nat → Prop} {e : TypeId} {w w' : World} {base size n : Nat} {v : Value} {xs : List Value} (h : Touch F w w') (ho : w.ownsRow base e size v n xs) (hF : ∀ k, v.ownBlock = some k → ¬ F k) : w'.ownsRow base e size v n xs := by
  refine ⟨ho.1, ?_⟩
  rcases ho.2 with hn | ⟨g, cap, cur, rfl, hb, hgg, rest⟩
  · exact .inl hn
  · exact .inr ⟨g, cap, cur, rfl, hb, h.obj hgg (hF g rfl), rest⟩
theorem Touch.ownB {F : Nat → Prop} {e : TypeId} {w w' : World} {base : Nat} {v : Value} {l : List UInt8} (h : Touch F w w') (ho : OwnB e w base v l) (hF : ∀ k, v.ownBlock = some k → ¬ F k) : OwnB e w' base v l := Touch.own h ho hF
theorem Touch.row {F : Nat → Prop} {w w' : World} {A : Option Addr} {cs : List Value} (h : Touch F w w') (hr : RowAt w A cs) (hF : ∀ a, A = some a → cs ≠ [] → ¬ F a.block) : RowAt w' A cs := by
  intro i v hv
  obtain ⟨ad, e, hc⟩ := hr i v hv
  exact ⟨ad, e, h.cell hc (by rw [addr_add_block]; exact hF ad e (fun h0 => by subst h0; simp at hv))⟩
theorem Touch.reads {F : Nat → Prop} {w w' : World} {A : Option Addr} {l : List UInt8} (h : Touch F w w') (hr : Reads w A l) (hF : ∀ a, A = some a → l ≠ [] → ¬ F a.block) : Reads w' A l :=
  Touch.row h hr fun a e hn => hF a e (fun h0 => hn (by rw [h0]; rfl))
theorem own_lt {e : TypeId} {w : World} {base size n : Nat} {v : Value} {xs : List Value} (h : w.ownsRow base e size v n xs) (k : Nat) (hk : v.ownBlock = some k) : k < w.heap.size := (h.lt k hk).2
theorem own_far {e : TypeId} {w : World} {base size n : Nat} {v : Value} {xs : List Value} (h : w.ownsRow base e size v n xs) {p : Addr} (hp : v.ownBlock ≠ some p.block) (u : Value) : (w.setCell p u).ownsRow base e size v n xs :=
  ((Touch.refl (At p.block) w).setCell p u fun _ => At.self _).own h fun k hk hF => hp (by rw [hk]; exact congrArg some hF)
theorem ownB_far {e : TypeId} {w : World} {base : Nat} {v : Value} {l : List UInt8} (h : OwnB e w base v l) {p : Addr} (hp : v.ownBlock ≠ some p.block) (u : Value) : OwnB e (w.setCell p u) base v l := own_far h hp u
theorem own_raise {e : TypeId} {w : World} {b size n : Nat} {v : Value} {xs : List Value} (h : w.ownsRow b e size v n xs) (B : Nat) (hB : ∀ k, v.ownBlock = some k → B ≤ k) : w.ownsRow B e size v n xs := by
  refine ⟨h.1, ?_⟩
  rcases h.2 with hn | ⟨g, cap, cur, rfl, hb, r⟩
  · exact .inl hn
  · exact .inr ⟨g, cap, cur, rfl, hB g rfl, r⟩
theorem own_lower {e : TypeId} {w : World} {b size n : Nat} {v : Value} {xs : List Value} (h : w.ownsRow b e size v n xs) (B : Nat) (hB : B ≤ b) : w.ownsRow B e size v n xs :=
  own_raise h B fun k hk => Nat.le_trans hB (h.lt k hk).1
/-- two rows of different element types lie apart -/
theorem own_type_ne {w : World} {b b' : Nat} {e e' : TypeId} {s s' n n' : Nat} {v v' : Value} {xs xs' : List Value} (h : w.ownsRow b e s v n xs) (h' : w.ownsRow b' e' s' v' n' xs') (hne : e ≠ e') (k : Nat) (hk : v.ownBlock = some k) : v'.ownBlock ≠ some k := by
  intro hk'
  rcases h.2 with ⟨rfl, _⟩ | ⟨g, c, cur, rfl, _, hg, _⟩
  · simp [Value.ownBlock] at hk
  · rcases h'.2 with ⟨rfl, _⟩ | ⟨g', c', cur', rfl, _, hg', _⟩
    · simp [Value.ownBlock] at hk'
    · simp only [Value.ownBlock, Option.some.injEq] at hk hk'
      subst hk
      subst hk'
      rw [hg] at hg'
      injection hg' with h1
      injection h1 with h2 h3 h4
      exact hne h3
theorem own_obj_ne {w : World} {b g : Nat} {e t : TypeId} {s n : Nat} {v : Value} {xs : List Value} {C : Array Value} {fr : Nat × Nat} (h : w.ownsRow b e s v n xs) (hg : w.heap[g]? = some (.cells C t fr)) (hne : e ≠ t) : v.ownBlock ≠ some g := by
  intro hk
  rcases h.2 with ⟨rfl, _⟩ | ⟨g', c, cur, rfl, _, hg', _⟩
  · simp [Value.ownBlock] at hk
  · simp only [Value.ownBlock, Option.some.injEq] at hk
    subst hk
    rw [hg] at hg'
    injection hg' with h1
    injection h1 with h2 h3 h4
    exact hne h3.symm

/-- a call through a function value -/
theorem run_callFunc_body {P : Program} {f : FuncId} {fn : Func} (hf : P.funcs[f]? = some fn) (hn : (fn.name == "runtime.NumGoroutine") = false) (hb : fn.body.isNone = false) (args : Array Value) (w : World) : (callFunc f args).run P w = .ok (.enter f args) w := by
  have hn' : ¬ fn.name = "runtime.NumGoroutine" := by simpa using hn
  have hb' : ¬ fn.body = Option.none := by intro e; rw [e] at hb; cases hb
  simp [callFunc, hf, hn', hb']

/-! ### a block that is known whole -/
theorem obj_set {w : World} {g : Nat} {C : Array Value} {t : TypeId} (h : w.heap[g]? = some (.cells C t (0, 0))) (i : Nat) (u : Value) : (w.setCell ⟨g, i, none⟩ u).heap[g]? = some (.cells (C.setIfInBounds i u) t (0, 0)) := heap_setCell_same w g i C t u h
theorem obj_new (w : World) (o : Obj) : (w.alloc o).heap[w.heap.size]? = some o := heap_alloc_new w o
theorem obj_new_at (w : World) (o : Obj) (n : Nat) (hn : n = w.heap.size) : (w.alloc o).heap[n]? = some o := by subst hn; exact obj_new w o
theorem obj_old {w : World} {g : Nat} {o : Obj} (h : w.heap[g]? = some o) (o' : Obj) : (w.alloc o').heap[g]? = some o := (Below.heap_alloc w o' g (Array.getElem?_eq_some_iff.1 h).1).trans h
theorem obj_lt {w : World} {g : Nat} {o : Obj} (h : w.heap[g]? = some o) : g < w.heap.size := (Array.getElem?_eq_some_iff.1 h).1
theorem obj_cell {w : World} {g : Nat} {C : Array Value} {t : TypeId} {fr : Nat × Nat} (h : w.heap[g]? = some (.cells C t fr)) (i : Nat) : w.cell? ⟨g, i, none⟩ = C[i]? := cell_of_row w g i C t fr h
theorem obj_frozen {w : World} {g : Nat} {C : Array Value} {t : TypeId} (h : w.heap[g]? = some (.cells C t (0, 0))) (i : Nat) : w.frozen? ⟨g, i, none⟩ = false := frozen_of_row w g i C t h
theorem cells2 {w : World} {g : Nat} {a b : Value} {t : TypeId} (h : w.heap[g]? = some (.cells #[a, b] t (0, 0))) : w.cell? ⟨g, 0, none⟩ = some a ∧ w.cell? ⟨g, 1, none⟩ = some b ∧ w.frozen? ⟨g, 0, none⟩ = false ∧ w.frozen? ⟨g, 1, none⟩ = false :=
  ⟨by rw [obj_cell h]; rfl, by rw [obj_cell h]; rfl, obj_frozen h 0, obj_frozen h 1⟩
theorem obj_far {w : World} {g : Nat} {o : Obj} (h : w.heap[g]? = some o) {p : Addr} (hp : g ≠ p.block) (u : Value) : (w.setCell p u).heap[g]? = some o := (Below.heap_setCell w p u g hp).trans h
end Go.Proofs.Ytnfefjlplipeiab
