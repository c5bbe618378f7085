/-
  Small words for the walks of this seat: rows of cells that are read, rows of bytes, worlds that part only by draws, append onto a row of the call's own. No condition.
-/
import Derived.Test.YtnfefjlplipeiabRows
import Derived.WalkKit
import Derived.WalkSpells
import Derived.WalkSmall
import Derived.Laws.BitsAll
import Derived.Lib.Hide
import Derived.Deep.QuietTactic
import Derived.BigQuiet
import Derived.Lib.SlBytesConst
import Derived.Maps.AppendAt
namespace Go.Proofs.Ytnfefjlplipeiab
open Go.RowKit

theorem ret_int {k : IntKind} {a b : Int} (h : a = b) : Ending.returned (.int k a) = .returned (.int k b) := by rw [h]
theorem ret_bool {a b : Bool} (h : a = b) : Ending.returned (.bool a) = .returned (.bool b) := by rw [h]

/-- nothing was done but drawing -/
def Quiet (w w' : World) : Prop := ∃ n, w' = w.drewN n
theorem Quiet.refl (w : World) : Quiet w w := ⟨0, rfl⟩
theorem Quiet.step {w w' : World} (h : Quiet w w') (n : Nat) : Quiet w (w'.drewN n) := by
  obtain ⟨m, rfl⟩ := h
  exact ⟨m + n, by rw [World.drewN_drewN]⟩
theorem Quiet.step1 {w w' : World} (h : Quiet w w') : Quiet w w'.drew := h.step 1
theorem Quiet.trans {a b c : World} (h : Quiet a b) (k : Quiet b c) : Quiet a c := by
  obtain ⟨m, rfl⟩ := k
  exact h.step m
theorem Quiet.below {w w' : World} (h : Quiet w w') (B : Nat) : Below B w w' := by
  obtain ⟨n, rfl⟩ := h
  exact below_drewN (Below.refl _ _) n

theorem quiet_eq {P : Program} {f : FuncId} {args : Array Value} {w : World} {n : Nat} {v : Value}
    (h : Calls P f args (w.drewN n) fun e w' => e = .returned v ∧ w.drewN n = w') : Calls P f args (w.drewN n) fun e w'' => e = .returned v ∧ ∃ m, w'' = w.drewN m :=
  h.mono fun _ _ ⟨he, hm⟩ => ⟨he, n, hm.symm⟩
theorem quiet_q {P : Program} {f : FuncId} {args : Array Value} {w : World} {n : Nat} {v : Value}
    (h : Calls P f args (w.drewN n) fun e w' => e = .returned v ∧ Quiet (w.drewN n) w') : Calls P f args (w.drewN n) fun e w'' => e = .returned v ∧ ∃ m, w'' = w.drewN m :=
  h.mono fun _ _ ⟨he, m, hm⟩ => ⟨he, n + m, by rw [hm, World.drewN_drewN]⟩
/-- a contract at a value that is known -/
theorem at_value {P : Program} {f : FuncId} {args : Array Value} {w : World} {k : IntKind} {a b : Int} {R : World → Prop} (e : a = b)
    (h : Calls P f args w fun e w' => e = .returned (.int k a) ∧ R w') : Calls P f args w fun e w' => e = .returned (.int k b) ∧ R w' := by rw [← e]; exact h
theorem at_bool {P : Program} {f : FuncId} {args : Array Value} {w : World} {a b : Bool} {R : World → Prop} (e : a = b)
    (h : Calls P f args w fun e w' => e = .returned (.bool a) ∧ R w') : Calls P f args w fun e w' => e = .returned (.bool b) ∧ R w' := by rw [← e]; exact h

/-! ### what was there is as it was -/
def Keeps (w w' : World) : Prop := Below w.heap.size w w'
theorem Keeps.refl (w : World) : Keeps w w := Below.refl _ _
theorem Keeps.drew (w : World) : Keeps w w.drew := (Below.refl _ _).drew
theorem Keeps.of {w w' : World} (h : Below w.heap.size w w') : Keeps w w' := h
theorem Keeps.below {w w' : World} (h : Keeps w w') : Below w.heap.size w w' := h
theorem Keeps.trans {a b c : World} (h : Keeps a b) (k : Keeps b c) : Keeps a c := Below.trans h (Below.mono k h.size)
theorem Keeps.quiet {a b c : World} (h : Keeps a b) (k : Quiet b c) : Keeps a c := Below.trans h (k.below _)
theorem Keeps.alloc {a b : World} (h : Keeps a b) (o : Obj) : Keeps a (b.alloc o) := Below.alloc h h.size o
theorem Keeps.size {a b : World} (h : Keeps a b) : a.heap.size ≤ b.heap.size := Below.size h
/-- contracts, in the class of the worlds that keep w -/
theorem keeps_eq {P : Program} {f : FuncId} {args : Array Value} {w w1 : World} {v : Value} (hw : Keeps w w1) (h : Calls P f args w1 fun e w' => e = .returned v ∧ w1 = w') :
    Calls P f args w1 fun e w' => e = .returned v ∧ Keeps w w' := h.mono fun _ _ ⟨he, hm⟩ => ⟨he, hm ▸ hw⟩
theorem keeps_q {P : Program} {f : FuncId} {args : Array Value} {w w1 : World} {v : Value} (hw : Keeps w w1) (h : Calls P f args w1 fun e w' => e = .returned v ∧ Quiet w1 w') :
    Calls P f args w1 fun e w' => e = .returned v ∧ Keeps w w' := h.mono fun _ _ ⟨he, hm⟩ => ⟨he, hw.quiet hm⟩
theorem keeps_b {P : Program} {f : FuncId} {args : Array Value} {w w1 : World} {v : Value} (hw : Keeps w w1) (h : Calls P f args w1 fun e w' => e = .returned v ∧ Below w1.heap.size w1 w') :
    Calls P f args w1 fun e w' => e = .returned v ∧ Keeps w w' := h.mono fun _ _ ⟨he, hm⟩ => ⟨he, hw.trans hm⟩

/-- a region that draws its order, walked once, in the class of the worlds that keep w -/
theorem wp_region_class {P : Program} {id : Nat} {Q : Exit → Act → World → Prop} {a : Act} {w w0 : World} {l : List Oper} (hm : P.follows .mixedOrders = true) (hB : Region.lexB .any l.toArray = true) (hC : Keeps w0 w)
    (h : wpQuiet P l.toArray (Keeps w0) (fun a' => ∀ w', Keeps w0 w' → Q .normal a' w') l a) : (Code.region id l.toArray true).wp P Q a w :=
  wp_region_quiet (C := Keeps w0) hm hB (Below.drew hC) (by simpa using h)

/-! ### addresses -/
theorem addr_add_zero (a : Addr) : a.add 0 = a := by simp [Addr.add]
theorem addr_add_add (a : Addr) (i j : Nat) : (a.add i).add j = a.add (i + j) := by
  unfold Addr.add
  by_cases h1 : i = 0 <;> by_cases h2 : j = 0 <;> simp [h1, h2, Nat.add_assoc]
theorem addr_add_mk (g o j : Nat) : (⟨g, o, none⟩ : Addr).add j = ⟨g, o + j, none⟩ := by
  unfold Addr.add; split <;> simp_all
theorem addr_add_block (a : Addr) (i : Nat) : (a.add i).block = a.block := by
  unfold Addr.add; split <;> simp_all

theorem addr_add_pos (a : Addr) (n : Nat) (h : 0 < n) : a.add n = ⟨a.block, a.off + n, none⟩ := by
  unfold Addr.add; split <;> simp_all
theorem addr_from (a : Addr) (n : Nat) (h : 0 < n) (i : Nat) : (⟨a.block, a.off + n, none⟩ : Addr).add i = a.add (n + i) := by
  rw [addr_add_mk, addr_add_pos a (n + i) (by omega), Nat.add_assoc]
/-! ### rows of cells that are read -/
def RowAt (w : World) (A : Option Addr) (cs : List Value) : Prop := ∀ i v, cs[i]? = some v → ∃ ad, A = some ad ∧ w.cell? (ad.add i) = some v

theorem RowAt.nil (w : World) (A : Option Addr) : RowAt w A [] := fun i v h => by simp at h
theorem RowAt.drewN {w : World} {A : Option Addr} {cs : List Value} (h : RowAt w A cs) (n : Nat) : RowAt (w.drewN n) A cs := h
theorem RowAt.drew {w : World} {A : Option Addr} {cs : List Value} (h : RowAt w A cs) : RowAt w.drew A cs := h
theorem RowAt.quiet {w w' : World} {A : Option Addr} {cs : List Value} (h : RowAt w A cs) (hq : Quiet w w') : RowAt w' A cs := by
  obtain ⟨n, rfl⟩ := hq
  exact h
theorem RowAt.below {w w' : World} {A : Option Addr} {cs : List Value} (h : RowAt w A cs) (hb : Below w.heap.size w w') : RowAt w' A cs := by
  intro i v hv
  obtain ⟨ad, e, hc⟩ := h i v hv
  exact ⟨ad, e, by rw [hb.cell (World.block_lt_of_cell? w _ hc)]; exact hc⟩
theorem RowAt.take {w : World} {A : Option Addr} {cs : List Value} (h : RowAt w A cs) (n : Nat) : RowAt w A (cs.take n) := by
  intro i v hv
  rw [List.getElem?_take] at hv
  split at hv
  · exact h i v hv
  · cases hv
theorem RowAt.drop {w : World} {ad ad' : Addr} {cs : List Value} (h : RowAt w (some ad) cs) (n : Nat) (ha : ∀ i, ad'.add i = ad.add (n + i)) : RowAt w (some ad') (cs.drop n) := by
  intro i v hv
  rw [List.getElem?_drop] at hv
  obtain ⟨a2, e, hc⟩ := h _ v hv
  cases e
  exact ⟨ad', rfl, by rw [ha]; exact hc⟩
theorem RowAt.drop_any {w : World} {A : Option Addr} {cs : List Value} (h : RowAt w A cs) (n : Nat) (B : Option Addr) (hB : n < cs.length → ∀ ad, A = some ad → B = some (ad.add n)) : RowAt w B (cs.drop n) := by
  intro i v hv
  rw [List.getElem?_drop] at hv
  obtain ⟨a2, e, hc⟩ := h _ v hv
  have hlt : n + i < cs.length := by
    rcases Nat.lt_or_ge (n + i) cs.length with h | h
    · exact h
    · simp [List.getElem?_eq_none h] at hv
  exact ⟨_, hB (by omega) _ e, by rw [addr_add_add]; exact hc⟩
/-- a new block reads as its cells -/
theorem RowAt.new (w : World) (t : TypeId) (fr : Nat × Nat) (C : Array Value) (cs : List Value) (hC : C.toList = cs) : RowAt (w.alloc (.cells C t fr)) (some ⟨w.heap.size, 0, none⟩) cs := by
  intro i v hv
  refine ⟨_, rfl, ?_⟩
  have : (w.alloc (.cells C t fr)).heap[w.heap.size]? = some (.cells C t fr) := by
    show (w.heap.push (.cells C t fr))[w.heap.size]? = _
    simp
  rw [addr_add_mk, cell_of_row _ _ (0 + i) C t fr this]
  subst hC
  simpa using hv
theorem RowAt.new_at (w : World) (t : TypeId) (fr : Nat × Nat) (C : Array Value) (cs : List Value) (hC : C.toList = cs) (n : Nat) (hn : n = w.heap.size) : RowAt (w.alloc (.cells C t fr)) (some ⟨n, 0, none⟩) cs := by
  subst hn; exact RowAt.new w t fr C cs hC
theorem RowAt.of_row {w : World} {g : Nat} {C : Array Value} {t : TypeId} {fr : Nat × Nat} (h : w.heap[g]? = some (.cells C t fr)) (cs : List Value) (n : Nat) (hC : C.toList.take n = cs) : RowAt w (some ⟨g, 0, none⟩) cs := by
  intro i v hv
  refine ⟨_, rfl, ?_⟩
  rw [addr_add_mk, cell_of_row _ _ (0 + i) C t fr h]
  subst hC
  rw [List.getElem?_take] at hv
  split at hv
  · simpa using hv
  · cases hv
theorem RowAt.own {w : World} {base n size : Nat} {e : TypeId} {A : Option Addr} {m c : Nat} {xs : List Value} (h : w.ownsRow base e size (.slice A m c) n xs) : RowAt w A xs := by
  rcases h.2 with ⟨h0, hn⟩ | ⟨g, cap, cur, h0, _, hg, _, _, _, htake⟩
  · have hl := h.1
    subst hn
    have : xs = [] := List.eq_nil_of_length_eq_zero (by simpa using hl)
    subst this
    exact RowAt.nil _ _
  · injection h0 with h1 h2 h3
    subst h1
    exact RowAt.of_row hg xs _ htake

/-! ### bytes -/
def u8s (l : List UInt8) : List Value := l.map fun b => .int .u8 ((b.toNat : Nat) : Int)
theorem u8s_length (l : List UInt8) : (u8s l).length = l.length := by simp [u8s]
theorem u8s_append (l m : List UInt8) : u8s (l ++ m) = u8s l ++ u8s m := by simp [u8s]
theorem u8s_take (l : List UInt8) (n : Nat) : u8s (l.take n) = (u8s l).take n := by simp [u8s, List.map_take]
theorem u8s_drop (l : List UInt8) (n : Nat) : u8s (l.drop n) = (u8s l).drop n := by simp [u8s, List.map_drop]
theorem u8s_one (l : List UInt8) : ∀ u ∈ u8s l, u.oneCell' = true := by
  intro u hu
  simp only [u8s, List.mem_map] at hu
  obtain ⟨q, _, rfl⟩ := hu
  rfl
theorem u8s_get (l : List UInt8) (k : Nat) (h : k < l.length) : (u8s l)[k]? = some (.int .u8 (((l[k]'h).toNat : Nat) : Int)) := by simp [u8s, h]
theorem u8s_inj {l m : List UInt8} (h : u8s l = u8s m) : l = m := by
  induction l generalizing m with
  | nil => cases m with | nil => rfl | cons _ _ => simp [u8s] at h
  | cons a l ih =>
    cases m with
    | nil => simp [u8s] at h
    | cons b m =>
      simp only [u8s, List.map_cons, List.cons.injEq, Value.int.injEq, true_and] at h
      rw [ih h.2, UInt8.toNat_inj.1 (show a.toNat = b.toNat by omega)]
/-- the slice at A reads as these bytes -/
def Reads (w : World) (A : Option Addr) (l : List UInt8) : Prop := RowAt w A (u8s l)
theorem Reads.out {w : World} {A : Option Addr} {l : List UInt8} (h : Reads w A l) (k : Nat) (hk : k < l.length) : ∃ ad, A = some ad ∧ w.cell? (ad.add k) = some (.int .u8 (((l[k]'hk).toNat : Nat) : Int)) := h k _ (u8s_get l k hk)
theorem Reads.drewN {w : World} {A : Option Addr} {l : List UInt8} (h : Reads w A l) (n : Nat) : Reads (w.drewN n) A l := h
theorem Reads.quiet {w w' : World} {A : Option Addr} {l : List UInt8} (h : Reads w A l) (hq : Quiet w w') : Reads w' A l := RowAt.quiet h hq
theorem Reads.below {w w' : World} {A : Option Addr} {l : List UInt8} (h : Reads w A l) (hb : Below w.heap.size w w') : Reads w' A l := RowAt.below h hb
theorem Reads.take {w : World} {A : Option Addr} {l : List UInt8} (h : Reads w A l) (n : Nat) : Reads w A (l.take n) := by unfold Reads; rw [u8s_take]; exact RowAt.take h n
theorem Reads.drop {w : World} {ad ad' : Addr} {l : List UInt8} (h : Reads w (some ad) l) (n : Nat) (ha : ∀ i, ad'.add i = ad.add (n + i)) : Reads w (some ad') (l.drop n) := by unfold Reads; rw [u8s_drop]; exact RowAt.drop h n ha
theorem Reads.drop_any {w : World} {A : Option Addr} {l : List UInt8} (h : Reads w A l) (n : Nat) (B : Option Addr) (hB : n < l.length → ∀ ad, A = some ad → B = some (ad.add n)) : Reads w B (l.drop n) := by
  unfold Reads; rw [u8s_drop]; exact RowAt.drop_any h n B (by rw [u8s_length]; exact hB)
theorem Reads.nil (w : World) (A : Option Addr) : Reads w A [] := RowAt.nil w A
theorem Reads.new (w : World) (l : List UInt8) (t : TypeId) (fr : Nat × Nat) (C : Array Value) (hC : C.toList = u8s l) : Reads (w.alloc (.cells C t fr)) (some ⟨w.heap.size, 0, none⟩) l := RowAt.new w t fr C _ hC
theorem Reads.new_at (w : World) (l : List UInt8) (t : TypeId) (fr : Nat × Nat) (C : Array Value) (hC : C.toList = u8s l) (n : Nat) (hn : n = w.heap.size) : Reads (w.alloc (.cells C t fr)) (some ⟨n, 0, .none⟩) l := by
  subst hn; exact Reads.new w l t fr C hC
theorem Reads.none {w : World} {l : List UInt8} (h : Reads w .none l) : l = [] := by
  cases l with
  | nil => rfl
  | cons b l => obtain ⟨ad, h', _⟩ := h.out 0 (by simp); cases h'

/-- the slice value v is a row of bytes of the call's own, from block base on -/
def OwnB (e : TypeId) (w : World) (base : Nat) (v : Value) (l : List UInt8) : Prop := w.ownsRow base e 1 v l.length (u8s l)
theorem OwnB.form {e : TypeId} {w : World} {base : Nat} {v : Value} {l : List UInt8} (h : OwnB e w base v l) : ∃ A c, v = .slice A l.length c ∧ l.length ≤ c ∧ Reads w A l ∧ c ≤ 9223372036854775807 ∧ (A = none → c = 0) := by
  have h' := h
  rcases h.2 with ⟨h0, hn⟩ | ⟨g, cap, cur, h0, _, hg, hnc, hcm, _, htake⟩
  · refine ⟨none, 0, ?_, by omega, ?_, by omega, fun _ => rfl⟩
    · rw [h0, hn]
    · have : l = [] := List.eq_nil_of_length_eq_zero hn
      subst this
      exact Reads.nil _ _
  · refine ⟨_, cap, h0, hnc, RowAt.of_row hg _ _ htake, by simpa [maxLen] using hcm, fun h => by cases h⟩
theorem OwnB.block {e : TypeId} {w : World} {base : Nat} {v : Value} {l : List UInt8} (h : OwnB e w base v l) (hp : 0 < l.length) : ∃ g c, v = .slice (some ⟨g, 0, none⟩) l.length c ∧ base ≤ g ∧ l.length ≤ c ∧ c ≤ 9223372036854775807 := by
  rcases h.2 with ⟨h0, hn⟩ | ⟨g, cap, cur, h0, hb, hg, hnc, hcm, _, htake⟩
  · omega
  · exact ⟨g, cap, h0, hb, hnc, by simpa [maxLen] using hcm⟩
theorem OwnB.nil (e : TypeId) (w : World) (base : Nat) : OwnB e w base (.slice none 0 0) [] := World.ownsRow_nil w base e 1
theorem OwnB.below {e : TypeId} {w w' : World} {base : Nat} {v : Value} {l : List UInt8} (h : OwnB e w base v l) (hb : Below w.heap.size w w') : OwnB e w' base v l :=
  World.ownsRow.kept (row := none) h ⟨hb.os, hb.tape, hb.output, hb.size, fun i hi _ => hb.block i hi⟩ (by cases hv : v.ownBlock <;> simp)
theorem OwnB.other {e : TypeId} {w w' : World} {base : Nat} {v : Value} {l : List UInt8} {row : Option Nat} (h : OwnB e w base v l) (hg : w.grownBy w' row) (hne : v.ownBlock = none ∨ v.ownBlock ≠ row) : OwnB e w' base v l := World.ownsRow.kept h hg hne
theorem OwnB.weaken {e : TypeId} {w : World} {base base' : Nat} {v : Value} {l : List UInt8} (h : OwnB e w base v l) (hb : base' ≤ base) : OwnB e w base' v l := by
  refine ⟨h.1, ?_⟩
  rcases h.2 with h' | ⟨g, cap, cur, a, b, r⟩
  · exact .inl h'
  · exact .inr ⟨g, cap, cur, a, by omega, r⟩
theorem OwnB.lit (e : TypeId) (w : World) (base : Nat) (l : List UInt8) (C : Array Value) (hC : C.toList = u8s l) (hb : base ≤ w.heap.size) (hm : l.length ≤ 9223372036854775807) :
    OwnB e (w.alloc (.cells C e)) base (.slice (some ⟨w.heap.size, 0, none⟩) l.length l.length) l := by
  have h := World.ownsRow_lit (base := base) (e := e) (size := 1) w C l.length hb (by simpa [maxLen] using hm) (by have := congrArg List.length hC; simp [u8s] at this; omega)
  rwa [hC] at h

/-- a store into a row of bytes of the call's own -/
theorem OwnB.store {e : TypeId} {w : World} {base g c : Nat} {l : List UInt8} (h : OwnB e w base (.slice (some ⟨g, 0, none⟩) l.length c) l) (i : Nat) (b : UInt8) :
    OwnB e (w.setCell ⟨g, i, none⟩ (.int .u8 ((b.toNat : Nat) : Int))) base (.slice (some ⟨g, 0, none⟩) l.length c) (l.set i b) ∧ w.grownBy (w.setCell ⟨g, i, none⟩ (.int .u8 ((b.toNat : Nat) : Int))) (some g) := by
  have hs := World.ownsRow.stored h i (.int .u8 ((b.toNat : Nat) : Int))
  have he : (u8s l).set i (.int .u8 ((b.toNat : Nat) : Int)) = u8s (l.set i b) := by simp [u8s, List.map_set]
  rw [he] at hs
  exact ⟨by unfold OwnB; rw [List.length_set]; exact hs.1, hs.2⟩
theorem OwnB.cell {e : TypeId} {w : World} {base g n c : Nat} {l : List UInt8} (h : OwnB e w base (.slice (some ⟨g, 0, none⟩) n c) l) (i : Nat) (hi : i < l.length) :
    w.cell? ⟨g, i, none⟩ = some (.int .u8 (((l[i]'hi).toNat : Nat) : Int)) ∧ w.frozen? ⟨g, i, none⟩ = false := by
  obtain ⟨A, c', e1, _, hr, _⟩ := h.form
  injection e1 with e1 e2 e3
  subst e1
  subst e2
  refine ⟨?_, World.ownsRow.frozenAt h i⟩
  obtain ⟨ad, e1, hc⟩ := hr.out i hi
  cases e1
  rw [addr_add_mk] at hc
  simpa using hc

theorem own_base {w : World} {base : Nat} {e : TypeId} {size n : Nat} {v : Value} {xs : List Value} (h : w.ownsRow base e size v n xs) (k : Nat) (hk : v.ownBlock = some k) : base ≤ k := (h.lt k hk).1

/-! ### string(b) -/
def str (l : List UInt8) : ByteArray := ⟨l.toArray⟩
theorem str_toList (l : List UInt8) : (str l).toList = l := ByteArray.toList_mk l
theorem str_yes {l m : List UInt8} (h : l = m) : ((str l).toList == (str m).toList) = true := by rw [h]; simp
theorem str_no {l m : List UInt8} (h : l ≠ m) : ((str l).toList == (str m).toList) = false := by rw [str_toList, str_toList, beq_eq_false_iff_ne]; exact h
theorem str_inj {l m : List UInt8} (h : str l = str m) : l = m := by
  unfold str at h
  injection h with h
  simpa using congrArg Array.toList h
theorem Reads.conv {P : Program} {w : World} {A : Option Addr} {l : List UInt8} (h : Reads w A l) (src dst e : TypeId) (hs : P.underlying src = some (.slice e)) (he : P.underlying e = some (.int .u8)) (hd : P.underlying dst = some .string) (c : Nat) :
    (convert src dst (.slice A l.length c)).run P w = .ok (.string (str l)) w := by
  cases A with
  | none =>
    have := h.none
    subst this
    rw [List.length_nil, run_convert_bytes_string w src dst e .none 0 c hs he hd]
    simp [Conv.bytesToString]
    rfl
  | some a =>
    exact run_convert_bytes_back w src dst e a c l hs he hd fun j hj => by
      obtain ⟨ad, e1, hc⟩ := h.out j hj
      cases e1
      exact hc

/-! ### append(v, ys...): ys a row that is read, nil let in -/
theorem run_append_row {P : Program} (w : World) (base : Nat) (t ty e : TypeId) (z : Value) (size bytes : Nat) (ht : P.underlying t = some (.slice e))
    (hinfo : (P.info? e).map (fun i => (i.zero, i.size, i.bytes)) = some (some z, size, bytes)) (hzs : z.cells.size = size) (hsz : 0 < size)
    (v : Value) (n : Nat) (xs : List Value) (hown : w.ownsRow base e size v n xs)
    (A : Option Addr) (m c : Nat) (news : List Value) (hl : news.length = m * size) (hr : RowAt w A news) (h1 : ∀ u ∈ news, u.oneCell' = true)
    (hlen : n + m ≤ maxLen) (hbytes : (n + m) * bytes ≤ 140737488355328) (hbase : base ≤ w.heap.size) :
    ∃ v' w', (Builtin.append_ #[t, t] ty #[v, .slice A m c]).run P w = .ok v' w' ∧ w'.ownsRow base e size v' (n + m) (xs ++ news) ∧ w.grownBy w' v.ownBlock ∧ (v'.ownBlock = v.ownBlock ∨ v'.ownBlock = some w.heap.size) := by
  obtain ⟨i0, hi, hzz⟩ := Option.map_eq_some_iff.1 hinfo
  simp only [Prod.mk.injEq] at hzz
  obtain ⟨hz0, hz1, hz2⟩ := hzz
  rcases A with _ | ad
  · have hn : news = [] := by
      cases news with
      | nil => rfl
      | cons u us => obtain ⟨_, h, _⟩ := hr 0 u rfl; cases h
    subst hn
    have h0 : m = 0 := by
      rcases Nat.eq_zero_or_pos m with h | h
      · exact h
      · have := Nat.mul_pos h hsz
        simp at hl
        omega
    subst h0
    refine ⟨v, w, ?_, by simpa using hown, ⟨rfl, rfl, rfl, Nat.le_refl _, fun _ _ _ => rfl⟩, .inl rfl⟩
    rcases hown.2 with ⟨rfl, hn⟩ | ⟨g, cap, cur, rfl, _, _, hnc, _⟩
    · simp [Builtin.append_, run_underlying ht, sizeOf, typeInfo, hi, Builtin.lenOf, Builtin.firstCells]
    · simp [Builtin.append_, run_underlying ht, sizeOf, typeInfo, hi, Builtin.lenOf, Builtin.firstCells, hnc, storeCells]
  · have hcells : ∀ j u, news[j]? = some u → w.cell? (ad.add j) = some u := by
      intro j u hu
      obtain ⟨ad', h', hc⟩ := hr j u hu
      cases h'
      exact hc
    obtain ⟨v1, w1, h2, h3, h4, _, h5⟩ := run_append_own_at (P := P) w base t ty e i0 z size bytes ht hi hz0 hz1 hz2 hzs hsz v n xs hown ad m c news hl hcells h1 hlen hbytes hbase
    exact ⟨v1, w1, h2, h3, h4, h5⟩

theorem run_append_row_fits {P : Program} (w : World) (base : Nat) (t ty e : TypeId) (z : Value) (size bytes : Nat) (ht : P.underlying t = some (.slice e))
    (hinfo : (P.info? e).map (fun i => (i.zero, i.size, i.bytes)) = some (some z, size, bytes)) (hsz : 0 < size)
    (g n cap : Nat) (xs : List Value) (hown : w.ownsRow base e size (.slice (some ⟨g, 0, none⟩) n cap) n xs)
    (A : Option Addr) (m c : Nat) (news : List Value) (hl : news.length = m * size) (hr : RowAt w A news) (h1 : ∀ u ∈ news, u.oneCell' = true) (hroom : n + m ≤ cap) :
    ∃ w', (Builtin.append_ #[t, t] ty #[.slice (some ⟨g, 0, none⟩) n cap, .slice A m c]).run P w = .ok (.slice (some ⟨g, 0, none⟩) (n + m) cap) w' ∧ w'.ownsRow base e size (.slice (some ⟨g, 0, none⟩) (n + m) cap) (n + m) (xs ++ news) ∧ w.grownBy w' (some g) := by
  obtain ⟨i0, hi, hzz⟩ := Option.map_eq_some_iff.1 hinfo
  simp only [Prod.mk.injEq] at hzz
  obtain ⟨hz0, hz1, hz2⟩ := hzz
  rcases A with _ | ad
  · have hn : news = [] := by
      cases news with
      | nil => rfl
      | cons u us => obtain ⟨_, h, _⟩ := hr 0 u rfl; cases h
    subst hn
    have h0 : m = 0 := by
      rcases Nat.eq_zero_or_pos m with h | h
      · exact h
      · have := Nat.mul_pos h hsz
        simp at hl
        omega
    subst h0
    refine ⟨w, ?_, by simpa using hown, ⟨rfl, rfl, rfl, Nat.le_refl _, fun _ _ _ => rfl⟩⟩
    have hnc : n ≤ cap := by omega
    simp [Builtin.append_, run_underlying ht, sizeOf, typeInfo, hi, Builtin.lenOf, Builtin.firstCells, hnc, storeCells]
  · have hcells : ∀ j u, news[j]? = some u → w.cell? (ad.add j) = some u := by
      intro j u hu
      obtain ⟨ad', h', hc⟩ := hr j u hu
      cases h'
      exact hc
    exact run_append_fits (P := P) w base t ty e i0 size ht hi hz1 g n cap xs hown ad m c news hl hcells h1 hroom

section
variable {P : Program} {ops : Array Oper} {rest : List Oper} {o : Oper} {a : Act} {Q : Exit → Act → World → Prop}
/-- bytes onto a row of bytes with room -/
theorem wpList_append_bytes_fits {w : World} (base : Nat) (hgd : o.guard = none) (s x : Operand) (t e : TypeId)
    (ho : o.op = .call { callee := .builtin .append, args := #[s, x], argTypes := #[t, t] })
    (ht : P.underlying t = some (.slice e)) (hinfo : (P.info? e).map (fun i => (i.zero, i.size, i.bytes)) = some (some (.int .u8 0), 1, 1))
    (g cap : Nat) (l m : List UInt8) (hs : a.eval s = .slice (some ⟨g, 0, none⟩) l.length cap) (hown : OwnB e w base (.slice (some ⟨g, 0, none⟩) l.length cap) l)
    (A : Option Addr) (c : Nat) (hx : a.eval x = .slice A m.length c) (hr : Reads w A m) (hroom : l.length + m.length ≤ cap)
    (h : ∀ w', OwnB e w' base (.slice (some ⟨g, 0, none⟩) (l ++ m).length cap) (l ++ m) → w.grownBy w' (some g) → wpList P ops Q rest (a.put o.dst (.slice (some ⟨g, 0, none⟩) (l ++ m).length cap)) w') :
    wpList P ops Q (o :: rest) a w := by
  refine wpList_plain hgd fun K hK => ?_
  obtain ⟨w', hrun, h2, h3⟩ := run_append_row_fits (P := P) w base t o.type e (.int .u8 0) 1 1 ht hinfo (by omega) g l.length cap (u8s l) hown A m.length c (u8s m) (by rw [u8s_length]; omega) hr (u8s_one m) hroom
  unfold Oper.wp execOp
  simp only [ho, resolve, invoke, builtin, Sem.run_bind, Sem.run_pure, Result.andThen_ok, List.map_toArray, List.map_cons, List.map_nil, hs, hx, hrun]
  have := h w' (by unfold OwnB; rw [u8s_append, List.length_append]; exact h2) h3
  rw [List.length_append] at this
  exact hK _ _ this
end

section
variable {P : Program} {ops : Array Oper} {rest : List Oper} {o : Oper} {a : Act} {Q : Exit → Act → World → Prop}
theorem wpList_append_row {w0 w : World} (base : Nat) (hgd : o.guard = none) (s x : Operand) (t e : TypeId) (z : Value) (size bytes : Nat)
    (ho : o.op = .call { callee := .builtin .append, args := #[s, x], argTypes := #[t, t] })
    (ht : P.underlying t = some (.slice e)) (hinfo : (P.info? e).map (fun i => (i.zero, i.size, i.bytes)) = some (some z, size, bytes)) (hzs : z.cells.size = size) (hsz : 0 < size)
    (v : Value) (n : Nat) (xs : List Value) (hs : a.eval s = v) (hown : w.ownsRow base e size v n xs)
    (A : Option Addr) (m c : Nat) (news : List Value) (hx : a.eval x = .slice A m c) (hl : news.length = m * size) (hr : RowAt w A news) (h1 : ∀ u ∈ news, u.oneCell' = true)
    (hlen : n + m ≤ maxLen) (hbytes : (n + m) * bytes ≤ 140737488355328) (hbase : base ≤ w.heap.size) (hb : Below base w0 w)
    (h : ∀ v' w', w'.ownsRow base e size v' (n + m) (xs ++ news) → Below base w0 w' → w.grownBy w' v.ownBlock → (v'.ownBlock = v.ownBlock ∨ v'.ownBlock = some w.heap.size) → wpList P ops Q rest (a.put o.dst v') w') :
    wpList P ops Q (o :: rest) a w := by
  refine wpList_plain hgd fun K hK => ?_
  obtain ⟨v', w', hrun, h2, h3, h4⟩ := run_append_row (P := P) w base t o.type e z size bytes ht hinfo hzs hsz v n xs hown A m c news hl hr h1 hlen hbytes hbase
  unfold Oper.wp execOp
  simp only [ho, resolve, invoke, builtin, Sem.run_bind, Sem.run_pure, Result.andThen_ok, List.map_toArray, List.map_cons, List.map_nil, hs, hx, hrun]
  exact hK _ _ (h v' w' h2 (hb.grown h3 hbase (own_base hown)) h3 h4)

/-- bytes onto bytes -/
theorem wpList_append_bytes {w0 w : World} (base : Nat) (hgd : o.guard = none) (s x : Operand) (t e : TypeId)
    (ho : o.op = .call { callee := .builtin .append, args := #[s, x], argTypes := #[t, t] })
    (ht : P.underlying t = some (.slice e)) (hinfo : (P.info? e).map (fun i => (i.zero, i.size, i.bytes)) = some (some (.int .u8 0), 1, 1))
    (v : Value) (l m : List UInt8) (hs : a.eval s = v) (hown : OwnB e w base v l)
    (A : Option Addr) (c : Nat) (hx : a.eval x = .slice A m.length c) (hr : Reads w A m)
    (hlen : l.length + m.length ≤ 140737488355328) (hbase : base ≤ w.heap.size) (hb : Below base w0 w)
    (h : ∀ v' w', OwnB e w' base v' (l ++ m) → Below base w0 w' → w.grownBy w' v.ownBlock → (v'.ownBlock = v.ownBlock ∨ v'.ownBlock = some w.heap.size) → wpList P ops Q rest (a.put o.dst v') w') :
    wpList P ops Q (o :: rest) a w := by
  refine wpList_append_row base hgd s x t e (.int .u8 0) 1 1 ho ht hinfo rfl (by omega) v l.length (u8s l) hs hown A m.length c (u8s m) hx (by rw [u8s_length]; omega) hr (u8s_one m) (by simp only [maxLen]; omega) (by omega) hbase hb ?_
  intro v' w' h2 h3 h4 h5
  exact h v' w' (by unfold OwnB; rw [u8s_append, List.length_append]; exact h2) h3 h4 h5
end

/-! ### the reading of an argument that is a slice of bytes -/
/-- a list of whole numbers of a byte's kind is a list of bytes -/
theorem bytes_of_ints (zs : List Int) (h : ∀ n ∈ zs, (Lit.int .u8 n).wf = true) : ∃ l : List UInt8, l.length = zs.length ∧ ∀ i (hi : i < l.length), (((l[i]'hi).toNat : Nat) : Int) = zs.getD i 0 := by
  refine ⟨zs.map fun z => UInt8.ofNat z.toNat, by simp, ?_⟩
  intro i hi
  have hi' : i < zs.length := by simpa using hi
  have hz := h (zs[i]'hi') (List.getElem_mem hi')
  have hb : 0 ≤ zs[i]'hi' ∧ zs[i]'hi' ≤ 255 := by simpa [Lit.wf, IntKind.min, IntKind.max, IntKind.signed, IntKind.bits] using hz
  simp only [List.getElem_map, UInt8.toNat_ofNat', List.getD_eq_getElem?_getD, List.getElem?_eq_getElem hi', Option.getD_some]
  omega
end Go.Proofs.Ytnfefjlplipeiab
