/-
  What a frame's reader gives up with is below 140: plain. No condition. A walk over a whole file: plain. No condition. The walk of scan.Whole. Condition: the file stands for its plain machine, that is up; the tables are as laid, whatever is done in the file's blocks. A file that is cut behind some frame is walked just as far: plain. No condition. The walk of the reference's SameEntries. Condition: both rows read. The walk of the law ScanPrefix. Condition: the bytes read; the tables are as laid.
-/
import Derived.Test.YtihodcnnappkbaaGreatDoorG10
import Derived.Test.YtihodcnnappkbaaGreatDoorG9
import Derived.Test.YtihodcnnappkbaaGreatDoorG7
import Derived.Deep.RegionHeld3
import Derived.Deep.DrawnRows
import Derived.Test.YtihodcnnappkbaaGreatDoorG12
import Derived.Test.YtihodcnnappkbaaGreatDoorG14
import Derived.Test.YtihodcnnappkbaaGreatDoorG11
import Derived.Test.YtihodcnnappkbaaGreatDoorG13
import Derived.Test.YtihodcnnappkbaaGreatDoorG15
import Derived.Test.YtihodcnnappkbaaGreatDoorG16
import Derived.Test.YtihodcnnappkbaaGreatDoorG18
import Derived.Test.YtihodcnnappkbaaGreatDoorG19
import Derived.Test.YtihodcnnappkbaaGreatDoorG8
import Derived.Test.YtihodcnnappkbaaGreatDoorG20
namespace Go.Proofs.YtihodcnnappkbaaGreatDoor
open Go.RowKit
set_option linter.unusedSimpArgs false
set_option linter.unusedVariables false
theorem dec_back {run : List UInt8} {f : Fr} (h : decF run = .ok f) : encF f = .ok (0 :: (run ++ [0])) := by
  obtain ⟨h0, _, _, _, h2, h3⟩ := decF_ok h
  unfold encF encFin
  have e : frBody f ++ le4 (Crc.sum (nats (frBody f))) = checked (frBody f) := rfl
  rw [if_pos h0, e, ← h2, if_neg (by omega)]
end Go.Proofs.YtihodcnnappkbaaGreatDoor
namespace Go.Proofs.YtihodcnnappkbaaGreatDoor
open Go.RowKit Go.BigFrame
set_option linter.unusedVariables false
set_option linter.unusedSimpArgs false
theorem decF_nil : decF [] = .error 30 := by simp [decF, unstuffOf]
end Go.Proofs.YtihodcnnappkbaaGreatDoor
namespace Go.Proofs.YtihodcnnappkbaaGreatDoor
def Dv.cut (d : Dv) (n : Int) : Dv × Int :=
  if d.down then (d, 50) else if n < 0 ∨ (d.b.length : Int) < n then (d, 7) else
  match d.deed with
  | (d', false) => (d', 51)
  | (d', true) => ({ d' with b := d'.b.take n.toNat, synced := min d'.synced n.toNat }, 0)
end Go.Proofs.YtihodcnnappkbaaGreatDoor
namespace Go.Proofs.YtihodcnnappkbaaGreatDoor
open Go.RowKit Go.BigFrame
set_option linter.unusedVariables false
set_option linter.unusedSimpArgs false
theorem fetch_same {d d' : Dv} (hb : d'.b = d.b) (hd : d'.down = d.down) (a : Int) : fetch d' a = fetch d a := by
  unfold fetch
  rw [hb, hd]
end Go.Proofs.YtihodcnnappkbaaGreatDoor
namespace Go.Proofs.YtihodcnnappkbaaGreatDoor
open Go.RowKit Go.BigFrame
set_option linter.unusedVariables false
set_option linter.unusedSimpArgs false
attribute [local go_sem] run_storeF
set_option maxHeartbeats 400000 in
theorem scanClosed_calls (g : Nat) (S : Nat → Prop) (k : Wk) (w : World) (hk : WkV w S g k) : Calls Tryz.prog 32 #[.pointer (some ⟨g, 0, none⟩)] w fun e w' => e = .returned (.bool k.closed) ∧ w = w' := by
  obtain ⟨b, E, c, hg, _⟩ := hk
  obtain ⟨c0, c1, c2, c3, c4, c5, c6, fz⟩ := wk_cells hg
  clear hg
  go_enter Tryz.func32, Tryz.ntmps32
  go_wp2
  go_ret
  exact ⟨rfl, rfl⟩
end Go.Proofs.YtihodcnnappkbaaGreatDoor
namespace Go.Proofs.YtihodcnnappkbaaGreatDoor
set_option linter.unusedVariables false
set_option linter.unusedSimpArgs false
theorem lg_low : ∀ (l : List UInt8) (k n : Nat) (e : Int), lg l k n = .error e → e < 140
  | [], k, n, e, h => by simp [lg] at h; omega
  | c :: l, k, n, e, h => by
    rw [lg] at h
    split at h
    · injection h with h; omega
    · split at h
      · cases h
      · exact lg_low l _ _ _ h
theorem lebGet_low {l : List UInt8} {a : Nat} {e : Int} (h : lebGet l a = .error e) : e < 140 := by
  unfold lebGet at h
  split at h
  · rename_i e1 hl
    injection h with h
    rw [← h]
    exact lg_low _ _ _ _ hl
  · cases h
theorem rByte_low {l : List UInt8} {a : Nat} {e : Int} (h : rByte l a = .error e) : e < 140 := by
  unfold rByte at h
  split at h
  · cases h
  · injection h with h; omega
theorem rBit_low {l : List UInt8} {a : Nat} {e : Int} (h : rBit l a = .error e) : e < 140 := by have := rBit_err h; omega
theorem rText_low {most : Nat} {long : Int} {l : List UInt8} {a : Nat} {e : Int} (hl : long < 140) (h : rText most long l a = .error e) : e < 140 := by
  unfold rText at h
  split at h
  · rename_i e1 hg
    injection h with h
    rw [← h]
    exact lebGet_low hg
  · split at h
    · split at h
      · cases h
      · injection h with h; omega
    · injection h with h; omega
theorem rFloat_low {l : List UInt8} {a : Nat} {e : Int} (h : rFloat l a = .error e) : e < 140 := by
  unfold rFloat at h
  split at h
  · split at h
    · cases h
    · injection h with h; omega
  · injection h with h; omega
theorem rKind_low : ∀ (n : Nat) (l : List UInt8) (a : Nat) (e : Int), rKind n l a = .error e → e < 140
  | 0, l, a, e, h => by rw [rKind] at h; injection h with h; omega
  | n + 1, l, a, e, h => by
    rw [rKind] at h
    split at h
    · rename_i e1 hb
      injection h with h
      rw [← h]; exact rByte_low hb
    · split at h
      · injection h with h; omega
      · split at h
        · unfold rKindOf at h
          split at h
          · rename_i e1 hk
            injection h with h
            rw [← h]; exact rKind_low n _ _ _ hk
          · cases h
        · cases h
theorem rMany_low {f : Nat → Except Int (Va × Nat)} (hf : ∀ a e, f a = .error e → e < 140) : ∀ (n a : Nat) (vs : List Va) (e : Int), rMany f n a vs = .error e → e < 140
  | 0, a, vs, e, h => by rw [rMany] at h; cases h
  | n + 1, a, vs, e, h => by
    rw [rMany] at h
    split at h
    · rename_i e1 hb
      injection h with h
      rw [← h]; exact hf _ _ hb
    · exact rMany_low hf n _ _ _ h
theorem rKinds_low {k : Int} {f : Nat → Except Int (Va × Nat)} {l : List UInt8} {a : Nat} {e : Int} (hf : k = 6 ∨ k = 7 → ∀ a e, f a = .error e → e < 140) (h : rKinds k f l a = .error e) : e < 140 := by
  unfold rKinds at h
  split at h
  · split at h
    · rename_i e1 hb; injection h with h; rw [← h]; exact rBit_low hb
    · cases h
  split at h
  · split at h
    · rename_i e1 hb; injection h with h; rw [← h]; exact lebGet_low hb
    · cases h
  split at h
  · split at h
    · rename_i e1 hb; injection h with h; rw [← h]; exact rFloat_low hb
    · cases h
  split at h
  · split at h
    · rename_i e1 hb; injection h with h; rw [← h]; exact rText_low (by omega) hb
    · split at h
      · cases h
      · injection h with h; omega
  split at h
  · split at h
    · rename_i e1 hb; injection h with h; rw [← h]; exact rText_low (by omega) hb
    · cases h
  split at h
  · rename_i h6
    split at h
    · rename_i e1 hb; injection h with h; rw [← h]; exact rBit_low hb
    · unfold rList at h
      split at h
      · rename_i e1 hb; injection h with h; rw [← h]; exact rMany_low (hf (.inl h6)) _ _ _ _ hb
      · cases h
  split at h
  · rename_i h7
    split at h
    · rename_i e1 hb; injection h with h; rw [← h]; exact lebGet_low hb
    · split at h
      · unfold rList at h
        split at h
        · rename_i e1 hb; injection h with h; rw [← h]; exact rMany_low (hf (.inr h7)) _ _ _ _ hb
        · cases h
      · injection h with h; omega
  · cases h
theorem rValue_low (n : Nat) : ∀ (t : Ty) (l : List UInt8) (a : Nat) (e : Int), SizeOf.sizeOf t < n → t.good = true → rValue t l a = .error e → e < 140 := by
  induction n with
  | zero => intro t l a e hn; exact absurd hn (by omega)
  | succ n ih =>
    intro t l a e hn hg h
    cases t with
    | mk k ts =>
      rw [rValue] at h
      refine rKinds_low (fun h67 => ?_) h
      have hlen : ts.length = 1 := by
        simp only [Ty.good, Bool.and_eq_true, beq_iff_eq, decide_eq_decide] at hg
        exact hg.1.1.1 h67
      obtain ⟨t, rfl⟩ := List.length_eq_one_iff.1 hlen
      have hgt : t.good = true := by
        simp only [Ty.good, Ty.goods, Bool.and_eq_true] at hg
        exact hg.2.1
      have hsz : SizeOf.sizeOf t < n := by
        simp only [Ty.mk.sizeOf_spec, List.cons.sizeOf_spec, List.nil.sizeOf_spec] at hn
        omega
      intro a e h
      rw [rHead] at h
      exact ih t l a e hsz hgt h
theorem rCol_low {l : List UInt8} {cols : List Col} {a : Nat} {e : Int} (h : rCol l cols a = .error e) : e < 140 := by
  unfold rCol at h
  split at h
  · rename_i e1 hb; injection h with h; rw [← h]; exact rText_low (by omega) hb
  · split at h
    · injection h with h; omega
    · split at h
      · injection h with h; omega
      · split at h
        · rename_i e1 hb; injection h with h; rw [← h]; exact rKind_low _ _ _ _ hb
        · rename_i ty k2 hk
          split at h
          · rename_i e1 hb; injection h with h; rw [← h]; exact rBit_low hb
          · split at h
            · split at h
              · rename_i e1 hb; injection h with h; rw [← h]; exact rValue_low _ _ _ _ _ (Nat.lt_succ_self _) (rKind_good _ _ _ _ _ hk) hb
              · cases h
            · cases h
theorem rCols_low {l : List UInt8} : ∀ (n a : Nat) (cols : List Col) (e : Int), rCols l n a cols = .error e → e < 140
  | 0, a, cols, e, h => by rw [rCols] at h; cases h
  | n + 1, a, cols, e, h => by
    rw [rCols] at h
    split at h
    · rename_i e1 hb; injection h with h; rw [← h]; exact rCol_low hb
    · exact rCols_low n _ _ _ h
theorem rSchema_low {l : List UInt8} {a : Nat} {e : Int} (h : rSchema l a = .error e) : e < 140 := by
  unfold rSchema at h
  split at h
  · rename_i e1 hb; injection h with h; rw [← h]; exact lebGet_low hb
  · split at h
    · injection h with h; omega
    · split at h
      · injection h with h; omega
      · unfold rEnd at h
        split at h
        · rename_i e1 hb; injection h with h; rw [← h]; exact rCols_low _ _ _ _ hb
        · split at h
          · cases h
          · injection h with h; omega
theorem decodeS_low {l : List UInt8} {e : Int} (h : decodeS l = .error e) : e < 140 := by
  unfold decodeS at h
  split at h
  · injection h with h; omega
  · exact rSchema_low h
theorem unGo_lt (n : Nat) : ∀ (s b : List UInt8) (full : Bool), s.length ≤ n → (unGo s b full).2 < 140 := by
  induction n with
  | zero =>
    intro s b full h
    cases s with
    | nil => rw [unGo]; simp
    | cons c t => simp at h
  | succ n ih =>
    intro s b full h
    cases s with
    | nil => rw [unGo]; simp
    | cons c t =>
      rw [unGo_cons]
      split
      · simp
      · split
        · split <;> simp
        · refine ih _ _ _ ?_
          simp only [List.length_cons, List.length_drop] at h ⊢
          omega
theorem unstuff_lt (s : List UInt8) : (unstuffOf s).2 < 140 := by
  unfold unstuffOf
  split
  · simp
  · split
    · simp
    · exact unGo_lt _ _ _ _ (Nat.le_refl _)
theorem takeF_low {l : List UInt8} {e : Int} (h : takeF l = .error e) : e < 140 := by
  cases l with
  | nil => injection h with h; omega
  | cons b t =>
    rw [takeF] at h
    split at h
    · unfold takeS at h
      simp only at h
      split at h
      · injection h with h; omega
      · split at h
        · rename_i hd
          injection h with h
          subst h
          exact decodeS_low hd
        · cases h
    split at h
    · unfold takeD at h
      simp only at h
      split at h
      · injection h with h; omega
      · cases h
    split at h
    · unfold takeI at h
      simp only at h
      split at h
      · injection h with h; omega
      · cases h
    · injection h with h; omega
theorem decF_low {l : List UInt8} {e : Int} (h : decF l = .error e) : e < 140 := by
  unfold decF at h
  split at h
  · injection h with h; omega
  split at h
  · rename_i h2
    injection h with h
    rw [← h]
    exact unstuff_lt _
  split at h
  · injection h with h; omega
  split at h
  · injection h with h; omega
  · exact takeF_low h
end Go.Proofs.YtihodcnnappkbaaGreatDoor
namespace Go.Proofs.YtihodcnnappkbaaGreatDoor
open Go.RowKit Go.BigFrame
set_option linter.unusedVariables false
set_option linter.unusedSimpArgs false
theorem fetch_ok {d : Dv} {a : Int} {f : Fr} {n : Int} (h : fetch d a = .ok (f, n)) :
    ∃ run : List UInt8, decF run = .ok f ∧ 0 ≤ a ∧ n = a + (run.length : Int) + 2 ∧ n ≤ (d.b.length : Int) ∧ (d.b.drop a.toNat).take (run.length + 2) = 0 :: (run ++ [0]) ∧ d.down = false := by
  unfold fetch at h
  cases hdn : d.down with
  | true => rw [hdn] at h; simp at h
  | false =>
    rw [hdn] at h
    simp only [Bool.false_eq_true, if_false] at h
    split at h
    · cases h
    rename_i h1
    split at h
    · cases h
    rename_i h2
    generalize hq : (d.b.drop a.toNat).take 2202 = q at h
    unfold fetchB at h
    cases q with
    | nil => cases h
    | cons x t =>
      simp only at h
      split at h
      · cases h
      rename_i hx
      have hx0 : x = 0 := Classical.byContradiction hx
      subst hx0
      unfold fetchT at h
      split at h
      · rename_i hlt
        split at h
        · cases h
        · cases hde : decF (nz t) with
          | error e => rw [hde] at h; cases h
          | ok g =>
            rw [hde] at h
            simp only [fetchF, Except.ok.injEq, Prod.mk.injEq] at h
            obtain ⟨rfl, rfl⟩ := h
            have hql := congrArg List.length hq
            rw [List.length_take, List.length_drop, List.length_cons] at hql
            have ht : t.take ((nz t).length + 1) = nz t ++ [0] := by
              have h3 := nz_stop t hlt
              rw [List.getD_eq_getElem?_getD, List.getElem?_eq_getElem hlt] at h3
              simp only [Option.getD_some] at h3
              rw [List.take_succ_eq_append_getElem hlt, nz_take, h3]
            refine ⟨nz t, hde, by omega, rfl, by omega, ?_, rfl⟩
            have h4 : (d.b.drop a.toNat).take ((nz t).length + 2) = ((d.b.drop a.toNat).take 2202).take ((nz t).length + 2) := by
              rw [List.take_take, Nat.min_eq_left (by omega)]
            rw [h4, hq, List.take_succ_cons, ht]
      · split at h
        · cases h
        · cases h
theorem fetch_back {d : Dv} {a : Int} {f : Fr} {n : Int} (h : fetch d a = .ok (f, n)) :
    ∃ l : List UInt8, encF f = .ok l ∧ f.wf ∧ 0 ≤ a ∧ n = a + (l.length : Int) ∧ 2 ≤ l.length ∧ n ≤ (d.b.length : Int) ∧ (d.b.drop a.toNat).take l.length = l := by
  obtain ⟨run, h1, h2, h3, h4, h5, _⟩ := fetch_ok h
  have hl : (0 :: (run ++ [0]) : List UInt8).length = run.length + 2 := by simp
  refine ⟨0 :: (run ++ [0]), dec_back h1, (decF_ok h1).2.1, h2, by rw [hl]; omega, by omega, h4, by rw [hl]; exact h5⟩
theorem fetch_err {d : Dv} {a : Int} {e : Int} (h : fetch d a = .error e) : e ≠ 0 ∧ (e = 140 → a = (d.b.length : Int)) := by
  have hF : ∀ {r : Except Int Fr} {p : Int}, fetchF r p = .error e → r = .error e := fun {r p} h => by
    cases r with
    | error x => cases h; rfl
    | ok g => cases h
  have hT : ∀ {t : List UInt8}, fetchT t a = .error e → e ≠ 0 ∧ e ≠ 140 := fun {t} h => by
    unfold fetchT at h
    split at h
    · split at h
      · injection h with h; omega
      · have h1 := hF h
        have h2 := decF_nz h1
        have h3 := decF_low h1
        omega
    · split at h
      · injection h with h; omega
      · injection h with h; omega
  unfold fetch at h
  split at h
  · injection h with h; omega
  · split at h
    · injection h with h; omega
    · split at h
      · rename_i h1
        exact ⟨by injection h with h; omega, fun _ => h1⟩
      · unfold fetchB at h
        split at h
        · injection h with h; omega
        · split at h
          · injection h with h; omega
          · have := hT h
            exact ⟨this.1, fun e => absurd e this.2⟩
theorem next_or (k : Wk) (f : Fr) (a : Int) : (k.next f a).2 = 0 ∨ k.next f a = (k, 143) := by
  unfold Wk.next
  split
  · exact .inr rfl
  · split
    · exact .inr rfl
    · split
      · exact .inl rfl
      · exact .inr rfl
def Takes (d : Dv) : List (Fr × Int) → Wk → Int → Wk → Int → Prop
  | [], k, a, k', a' => k = k' ∧ a = a'
  | (f, n) :: l, k, a, k', a' => fetch d a = .ok (f, n) ∧ (k.next f a).2 = 0 ∧ Takes d l (k.next f a).1 n k' a'
def Stops (d : Dv) (k : Wk) (a e : Int) : Prop := fetch d a = .error e ∨ ∃ f n, fetch d a = .ok (f, n) ∧ k.next f a = (k, 143) ∧ e = 143
theorem Takes.snoc {d : Dv} {f : Fr} {n : Int} : ∀ {l : List (Fr × Int)} {k k' : Wk} {a a' : Int}, Takes d l k a k' a' → fetch d a' = .ok (f, n) → (k'.next f a').2 = 0 → Takes d (l ++ [(f, n)]) k a (k'.next f a').1 n
  | [], k, k', a, a', ⟨h1, h2⟩, hf, hn => by subst h1 h2; exact ⟨hf, hn, rfl, rfl⟩
  | (g, m) :: l, k, k', a, a', ⟨h1, h2, h3⟩, hf, hn => ⟨h1, h2, h3.snoc hf hn⟩
theorem Takes.grow {d : Dv} : ∀ {l : List (Fr × Int)} {k k' : Wk} {a a' : Int}, Takes d l k a k' a' → 0 ≤ a → a ≤ (d.b.length : Int) → a + 2 * (l.length : Int) ≤ a' ∧ a' ≤ (d.b.length : Int)
  | [], k, k', a, a', ⟨h1, h2⟩, h0, hl => by subst h2; simp; exact hl
  | (g, m) :: l, k, k', a, a', ⟨h1, h2, h3⟩, h0, hl => by
    obtain ⟨run, _, h4, h5, h6, _⟩ := fetch_ok h1
    have := h3.grow (by omega) h6
    simp only [List.length_cons]
    omega
theorem Takes.ok {d : Dv} : ∀ {l : List (Fr × Int)} {k k' : Wk} {a a' : Int}, Takes d l k a k' a' → k.ok → k'.ok
  | [], k, k', a, a', ⟨h1, _⟩, h => by subst h1; exact h
  | (g, m) :: l, k, k', a, a', ⟨h1, h2, h3⟩, h => h3.ok (h.next g a)
end Go.Proofs.YtihodcnnappkbaaGreatDoor
namespace Go.Proofs.YtihodcnnappkbaaGreatDoor
open Go.RowKit Go.BigFrame
set_option linter.unusedVariables false
set_option linter.unusedSimpArgs false
attribute [local go_sem] run_storeF
structure WhRel (w : World) (T : Nat → Prop) (gd gw : Nat) (d : Dv) (fs : List (Fr × Int)) (k : Wk) (a : Int) (d' : Dv) (wr : World) : Prop where
  takes : Takes d fs Wk.fresh 0 k a
  walk : WkV wr (fun j => w.heap.size ≤ j) gw k
  file : DV wr T gd d'
  same : d'.b = d.b ∧ d'.down = false ∧ d'.Ok
  counts : d'.counted ≤ d.counted + fs.length * 2202
  touch : Touch T w wr
def WholePost (w : World) (S : Nat → Prop) (gd : Nat) (d : Dv) (e : Ending) (w' : World) : Prop :=
  ∃ gw fs k a er d', e = .returned (.tuple #[.pointer (some ⟨gw, 0, none⟩), .int .i64 a, .int .i64 er]) ∧ Takes d fs Wk.fresh 0 k a ∧ Stops d k a er ∧ WkV w' (fun j => w.heap.size ≤ j) gw k ∧ DV w' S gd d' ∧ (d'.b = d.b ∧ d'.down = false ∧ d'.Ok) ∧ d'.counted ≤ d.counted + (fs.length + 1) * 2202 ∧ Touch S w w'
set_option maxRecDepth 40000 in
set_option maxHeartbeats 8000000 in
theorem whole_low (gd : Nat) (T : Nat → Prop) (d : Dv) (w : World) (hd : DV w T gd d) (hok : d.Ok) (hdn : d.down = false) (hct : d.counted ≤ 1099511627776) (hTT : ∀ w', Touch T w w' → Tabs w' ∧ Table w') (hTl : ∀ j, T j → j < w.heap.size) :
    Calls Tryz.prog 26 #[.pointer (some ⟨gd, 0, none⟩)] w (WholePost w T gd d) := by
  have hup := devUp_calls gd T d w hd
  rw [hdn] at hup
  have hlen := hok.size
  have HUP := Lib.hid hup
  have HD := Lib.hid hd
  have HOK := Lib.hid hok
  have HTT := Lib.hid hTT
  have HTL := Lib.hid hTl
  obtain ⟨N, hN⟩ : ∃ N, N = d.b.length := ⟨_, rfl⟩
  clear hup hd hok hTT hTl
  go_enter Tryz.func26, Tryz.ntmps26
  go_wp2_with fail
  refine HUP.out.mono ?_
  rintro e w0 ⟨rfl, rfl⟩
  clear HUP
  go_wp2_with fail
  refine (scanNew_calls w).mono ?_
  rintro e w1 ⟨gw, rfl, hgw, hwk1, hkp1⟩
  have hrel0 : ∃ fs k a d', Value.int .i64 0 = .int .i64 a ∧ WhRel w T gd gw d fs k a d' w1 := ⟨[], Wk.fresh, 0, d, rfl, ⟨rfl, rfl⟩, hwk1, HD.out.below hkp1.below, ⟨rfl, hdn, HOK.out⟩, by simp, Touch.of_below hkp1.below fun j hj h => absurd hj (by omega)⟩
  have HREL0 := Lib.hid hrel0
  clear hrel0 hwk1 hkp1 HD
  go_wp2_with fail
  go_loopw [6] (fun i wr => ∃ fs k a d', i = .int .i64 a ∧ WhRel w T gd gw d fs k a d' wr) (fun i _ => N - (intOf i).toNat)
  case atStart => exact HREL0.out
  case round =>
    obtain ⟨fs, k, a, d', rfl, hrel⟩ := hrel
    obtain ⟨htk, hwk, hfile, ⟨hsb, hsd, hso⟩, hcn, htc⟩ := hrel
    obtain ⟨hgr1, hgr2⟩ := htk.grow (by omega) (by omega)
    have hko := htk.ok wkFresh_ok
    have hwsz := htc.size
    have hat := scanAt_calls gd T d' a wr hfile hso (by omega) fun w' h => HTT.out w' (htc.then h)
    have hfs := fetch_same (d := d) (d' := d') hsb (by rw [hsd, hdn]) a
    have HAT := Lib.hid hat
    have HTK := Lib.hid htk
    have HWK := Lib.hid hwk.here
    have HKO := Lib.hid hko
    have HTC := Lib.hid htc
    have HSB := Lib.hid hsb
    have HSD := Lib.hid hsd
    have HFS := Lib.hid hfs
    obtain ⟨ff1, ff2, ff3, ff4, ff5⟩ := fetchD_facts d' a
    have HF5 := Lib.hid (ff5 hso)
    have HF1 := Lib.hid (ff1.trans hsb)
    have HF2 := Lib.hid (ff2.trans hsd)
    clear hat htk hwk hfile hsb hsd hso hko htc hfs ff1 ff2 ff3 ff5 HREL0
    go_wp2_with fail
    refine HAT.out.mono ?_
    rintro e w3 ⟨hpost, hd3, ht3⟩
    obtain ⟨P1, m1, P2, m2, P3, m3, rfl, hfr3⟩ := hpost.form
    rw [HFS.out] at hfr3 ⊢
    have hs3 := ht3.size
    obtain ⟨w4, hw4⟩ : ∃ w4, w4 = w3.alloc (.cells (frCells P1 m1 P2 m2 P3 m3 (outF (fetch d a)).1) 36) := ⟨_, rfl⟩
    have hk34 : Keeps w3 w4 := by rw [hw4]; exact (Keeps.refl w3).alloc _
    have hb4 : w4.heap[w3.heap.size]? = some (.cells (frCells P1 m1 P2 m2 P3 m3 (outF (fetch d a)).1) 36 (0, 0)) := by rw [hw4]; exact obj_new _ _
    have hs4 : w3.heap.size + 1 ≤ w4.heap.size := by rw [hw4]; simp
    have ht4 : Touch T w w4 := (HTC.out.then ht3).below hk34.below
    have hd4 := hd3.below hk34.below
    have hwk4 : WkV w4 (fun j => w.heap.size ≤ j ∧ j < wr.heap.size) gw k := (HWK.out.keep ht3 fun j _ h h' => by have := HTL.out j h'; have := h.1; omega).below hk34.below
    have hfr4 := (hfr3.later hk34.below).mono fun j hj h => (⟨hj, fun h2 => by have h3 : wr.heap.size ≤ j := h; have := h2.2; omega⟩ : j < w4.heap.size ∧ ¬ (w.heap.size ≤ j ∧ j < wr.heap.size))
    have HD4 := Lib.hid hd4
    have HT4 := Lib.hid ht4
    have HWK4 := Lib.hid hwk4
    have HFR4 := Lib.hid hfr4
    have HB4 := Lib.hid hb4
    clear hpost hd3 ht3 hfr3 hk34 hb4 ht4 hd4 hwk4 hfr4 HAT HWK HTC
    cases hr : fetch d a with
    | error er =>
      obtain ⟨hne, _⟩ := fetch_err hr
      have q1 : (er == 0) = false := by simpa using hne
      have q2 : (er != 0) = true := by simpa using hne
      have HSTOP : Hid (Stops d k a er) := Lib.hid (.inl hr)
      rw [hr] at hw4
      unfold outF frCells frZero at *
      clear hr hne HFR4 HB4
      simp only [List.length_nil] at hw4 ⊢
      go_wp2
      rw [← hw4]
      refine bodyPost_ret (v := .tuple #[.pointer (some ⟨gw, 0, none⟩), .int .i64 a, .int .i64 er]) (by simp [results, Tryz.results26, go_sem]) rfl ?_
      exact ⟨gw, fs, k, a, er, fetchD d' a, rfl, HTK.out, HSTOP.out, HWK4.out.mono fun j _ h => h.1, HD4.out, ⟨HF1.out, HF2.out, HF5.out⟩, by rw [Nat.add_mul]; omega, HT4.out⟩
    | ok p =>
      obtain ⟨f, n⟩ := p
      rw [hr] at hw4 HFR4 HB4
      obtain ⟨lf, hlf, hfw, hf0, hfn, hf2, hfb, _⟩ := fetch_back hr
      have hnx := scanNext_calls gw (fun j => w.heap.size ≤ j ∧ j < wr.heap.size) k P1 P2 P3 m1 m2 m3 f a w4 HWK4.out HKO.out HFR4.out hfw fun w' h => HTT.out w' (HT4.out.trans h fun j hj h => by have := h.1; omega)
      have HNX := Lib.hid hnx
      have HR := Lib.hid hr
      have hlt : a < n := by omega
      have hnN : n ≤ (N : Int) := by omega
      clear hnx hlf hfw HFR4 hfn hfb hf2
      unfold outF frCells at *
      obtain ⟨⟨x0, x1, x2, x3, x4, x5, x6, x7, x8, x9, x10⟩, _⟩ := cells11 HB4.out
      rw [hw4] at x0 x1 x2 x3 x4 x5 x6 x7 x8 x9 x10
      clear hr HB4
      simp only at hw4 HNX x0 x1 x2 x3 x4 x5 x6 x7 x8 x9 x10 ⊢
      generalize f.cols.length = y1 at *
      generalize f.block.length = y2 at *
      generalize f.ents.length = y3 at *
      rcases next_or k f a with h0 | h1
      · rw [h0] at HNX
        go_wp2_with fail
        rw [← hw4]
        refine HNX.out.mono ?_
        rintro e w5 ⟨rfl, hwk5, ht5⟩
        have hs5 := ht5.size
        have HREL : Hid (∃ fs k a d', Value.int .i64 n = .int .i64 a ∧ WhRel w T gd gw d fs k a d' w5) := Lib.hid ⟨fs ++ [(f, n)], (k.next f a).1, n, fetchD d' a, rfl, HTK.out.snoc HR.out h0, hwk5.mono fun j _ h => by
            rcases h with h | h
            · exact h.1
            · show w.heap.size ≤ j
              omega, HD4.out.keep ht5 fun j _ h h' => by have := HTL.out j h; have := h'.1; omega, ⟨HF1.out, HF2.out, HF5.out⟩, by rw [List.length_append, Nat.add_mul]; simp only [List.length_cons, List.length_nil]; omega, HT4.out.trans ht5 fun j hj h => by have := h.1; omega⟩
        clear hwk5 ht5 HNX HWK4 HD4 HT4 HTK
        go_wp2
        first
          | exact ⟨HREL.out, by simp [intOf]; omega⟩
          | (go_roundw
             case rel => exact HREL.out
             case measure => simp [intOf]; omega)
      · rw [h1] at HNX
        have HSTOP : Hid (Stops d k a 143) := Lib.hid (.inr ⟨f, n, HR.out, h1, rfl⟩)
        clear h1
        go_wp2_with fail
        rw [← hw4]
        refine HNX.out.mono ?_
        rintro e w5 ⟨rfl, hwk5, ht5⟩
        have hs5 := ht5.size
        have HPOST : Hid (WholePost w T gd d (.returned (.tuple #[.pointer (some ⟨gw, 0, none⟩), .int .i64 a, .int .i64 143])) w5) := Lib.hid ⟨gw, fs, k, a, 143, fetchD d' a, rfl, HTK.out, HSTOP.out, hwk5.mono fun j _ h => by
            rcases h with h | h
            · exact h.1
            · show w.heap.size ≤ j
              omega, HD4.out.keep ht5 fun j _ h h' => by have := HTL.out j h; have := h'.1; omega, ⟨HF1.out, HF2.out, HF5.out⟩, by rw [Nat.add_mul]; omega, HT4.out.trans ht5 fun j hj h => by have := h.1; omega⟩
        clear hwk5 ht5 HNX HWK4 HD4 HT4 HTK HSTOP
        go_wp2
        refine bodyPost_ret (v := .tuple #[.pointer (some ⟨gw, 0, none⟩), .int .i64 a, .int .i64 143]) (by simp [results, Tryz.results26, go_sem]) rfl ?_
        exact HPOST.out
theorem whole_calls (gd : Nat) (S : Nat → Prop) (d : Dv) (w : World) (hd : DV w S gd d) (hok : d.Ok) (hdn : d.down = false) (hct : d.counted ≤ 1099511627776) (hTT : ∀ w', Touch S w w' → Tabs w' ∧ Table w') :
    Calls Tryz.prog 26 #[.pointer (some ⟨gd, 0, none⟩)] w (WholePost w S gd d) :=
  (whole_low gd (fun j => S j ∧ j < w.heap.size) d w hd.here hok hdn hct (fun w' h => hTT w' (h.mono fun _ _ h => h.1)) fun j h => h.2).mono fun e w' ⟨gw, fs, k, a, er, d', h1, h2, h3, h4, h5, h6, h7, h8⟩ =>
    ⟨gw, fs, k, a, er, d', h1, h2, h3, h4, h5.mono fun j _ h => h.1, h6, h7, h8.mono fun j _ h => h.1⟩
end Go.Proofs.YtihodcnnappkbaaGreatDoor
namespace Go.Proofs.YtihodcnnappkbaaGreatDoor
open Go.RowKit Go.BigFrame
set_option linter.unusedVariables false
set_option linter.unusedSimpArgs false
theorem fetch_of {d : Dv} {p : Nat} {f : Fr} {run : List UInt8} (hd : d.down = false) (hr : decF run = .ok f) (hb : (d.b.drop p).take (run.length + 2) = 0 :: (run ++ [0])) :
    fetch d (p : Int) = .ok (f, (p : Int) + (run.length : Int) + 2) := by
  obtain ⟨_, _, _, _, hst, hl⟩ := decF_ok hr
  have h0 : (0 : UInt8) ∉ run := by rw [hst]; exact stuff_no _
  have hne : run.length ≠ 0 := fun e => by
    have : run = [] := List.eq_nil_of_length_eq_zero e
    subst this
    rw [decF_nil] at hr
    cases hr
  have hlen := congrArg List.length hb
  rw [List.length_take, List.length_drop] at hlen
  simp only [List.length_cons, List.length_append, List.length_nil] at hlen
  obtain ⟨rest, hrest⟩ : ∃ rest, d.b.drop p = 0 :: (run ++ (0 :: rest)) := by
    refine ⟨(d.b.drop p).drop (run.length + 2), ?_⟩
    have h := List.take_append_drop (run.length + 2) (d.b.drop p)
    rw [hb] at h
    rw [← h]
    simp
  unfold fetch
  rw [hd]
  simp only [Bool.false_eq_true, if_false]
  rw [if_neg (by omega), if_neg (by omega), Int.toNat_natCast, hrest, List.take_succ_cons]
  unfold fetchB
  simp only [ne_eq, not_true_eq_false, if_false]
  unfold fetchT
  have hn2 : nz ((run ++ (0 :: rest)).take 2201) = run := by
    have e : (run ++ (0 :: rest)).take 2201 = run ++ (0 :: rest.take (2200 - run.length)) := by
      rw [List.take_append, List.take_of_length_le (by omega), show 2201 - run.length = (2200 - run.length) + 1 by omega, List.take_succ_cons]
    rw [e]
    exact nz_zero run _ h0
  rw [hn2, if_pos, if_neg hne, hr]
  · rfl
  · rw [List.length_take, List.length_append, List.length_cons]
    omega
theorem fetch_cut {d c : Dv} {p : Int} {f : Fr} {n : Int} {a : Nat} (h : fetch d p = .ok (f, n)) (hb : c.b = d.b.take a) (hd : c.down = false) (hn : n ≤ (a : Int)) : fetch c p = .ok (f, n) := by
  obtain ⟨run, h1, h2, h3, h4, h5, _⟩ := fetch_ok h
  obtain ⟨q, rfl⟩ := Int.eq_ofNat_of_zero_le h2
  rw [h3]
  refine fetch_of hd h1 ?_
  rw [Int.toNat_natCast] at h5
  rw [hb, List.drop_take, List.take_take, Nat.min_eq_left (by omega)]
  exact h5
theorem Takes.cut {d c : Dv} {a : Nat} (hb : c.b = d.b.take a) (hd : c.down = false) : ∀ {l : List (Fr × Int)} {k k' : Wk} {p p' : Int}, Takes d l k p k' p' → 0 ≤ p → p ≤ (d.b.length : Int) → p' ≤ (a : Int) → Takes c l k p k' p'
  | [], k, k', p, p', h, _, _, _ => h
  | (f, n) :: l, k, k', p, p', ⟨h1, h2, h3⟩, h0, hl, hp => by
    obtain ⟨run, _, h4, h5, h6, _⟩ := fetch_ok h1
    have hg := (h3.grow (by omega) h6).1
    exact ⟨fetch_cut h1 hb hd (by omega), h2, h3.cut hb hd (by omega) h6 hp⟩
theorem Takes.same {d : Dv} {e1 : Int} : ∀ {l1 l2 : List (Fr × Int)} {k k1 k2 : Wk} {a a1 a2 e2 : Int}, Takes d l1 k a k1 a1 → fetch d a1 = .error e1 → Takes d l2 k a k2 a2 → Stops d k2 a2 e2 → k2 = k1 ∧ a2 = a1 ∧ e2 = e1
  | [], [], k, k1, k2, a, a1, a2, e2, ⟨h1, h2⟩, he, ⟨h3, h4⟩, hs => by
    subst h1 h2 h3 h4
    refine ⟨rfl, rfl, ?_⟩
    rcases hs with h | ⟨f, n, h, _⟩
    · rw [he] at h; cases h; rfl
    · rw [he] at h; cases h
  | [], (g, m) :: l2, k, k1, k2, a, a1, a2, e2, ⟨h1, h2⟩, he, ⟨h3, _⟩, hs => by
    subst h2
    rw [he] at h3
    cases h3
  | (f, n) :: l1, [], k, k1, k2, a, a1, a2, e2, ⟨h1, h2, _⟩, he, ⟨h3, h4⟩, hs => by
    subst h3 h4
    rcases hs with h | ⟨f', n', h, h5, _⟩
    · rw [h1] at h; cases h
    · rw [h1] at h
      cases h
      rw [h5] at h2
      have h6 : (143 : Int) = 0 := h2
      omega
  | (f, n) :: l1, (g, m) :: l2, k, k1, k2, a, a1, a2, e2, ⟨h1, h2, h3⟩, he, ⟨h4, h5, h6⟩, hs => by
    rw [h1] at h4
    cases h4
    exact h3.same he h6 hs
theorem prefix_same {l : List UInt8} {fs fs' : List (Fr × Int)} {k k' : Wk} {a : Nat} {a' er : Int} (h : Takes (laidD l) fs Wk.fresh 0 k (a : Int)) (ha : a ≤ l.length) (h' : Takes (laidD (l.take a)) fs' Wk.fresh 0 k' a') (hs : Stops (laidD (l.take a)) k' a' er) : k' = k ∧ a' = (a : Int) ∧ er = 140 := by
  have h1 : Takes (laidD (l.take a)) fs Wk.fresh 0 k (a : Int) := h.cut (a := a) rfl rfl (by omega) (by omega) (by omega)
  have hl : (laidD (l.take a)).b.length = a := by show (l.take a).length = a; rw [List.length_take]; omega
  have h2 : fetch (laidD (l.take a)) (a : Int) = .error 140 := by
    have h3 := fetch_end (d := laidD (l.take a)) rfl
    rwa [hl] at h3
  exact h1.same h2 h' hs
end Go.Proofs.YtihodcnnappkbaaGreatDoor
namespace Go.Proofs.YtihodcnnappkbaaGreatDoor
open Go.RowKit Go.BigFrame
set_option linter.unusedVariables false
set_option linter.unusedSimpArgs false
set_option maxRecDepth 20000 in
set_option maxHeartbeats 1000000 in
theorem sameEntries_calls (A B : Option Addr) (c d : Nat) (l m : List Ent) (w : World) (hl : l.length ≤ 17179869184) (hm : m.length ≤ 17179869184) (hr : RowAt w A (entCells l)) (hs : RowAt w B (entCells m)) :
    Calls Tryz.prog 33 #[.slice A l.length c, .slice B m.length d] w fun e w' => e = .returned (.bool (decide (l = m))) ∧ Keeps w w' := by
  by_cases hlen : l.length = m.length
  · obtain ⟨R, hR⟩ : ∃ R, R = decide (l = m) := ⟨_, rfl⟩
    rw [← hR]
    have h0 : R = decide (l.drop 0 = m.drop 0) := by simpa using hR
    rw [← hlen]
    have HR := Lib.hid hr
    have HS := Lib.hid hs
    have H0 := Lib.hid h0
    clear hr hs hR h0 hm
    generalize hN : l.length = N at hl hlen ⊢
    have HN := Lib.hid hN
    have HM := Lib.hid hlen
    clear hN hlen
    have hgd : Tryz.prog.eqGuardType Tryz.prog.depth 78 = false := by kernel_rfl
    go_enter Tryz.func33, Tryz.ntmps33
    go_wp2_with fail
    go_loopw [13] (fun i wr => ∃ j : Nat, j ≤ N ∧ i = .int .i64 (j : Int) ∧ R = decide (l.drop j = m.drop j) ∧ Keeps w wr) (fun i _ => N - (intOf i).toNat)
    case atStart => exact ⟨0, by omega, rfl, H0.out, Keeps.refl w⟩
    case round =>
      obtain ⟨j, hj, rfl, hres, hkw⟩ := hrel
      by_cases hlt : j < N
      · have hl1 : j < l.length := by rw [HN.out]; exact hlt
        have hm1 : j < m.length := by rw [← HM.out]; exact hlt
        obtain ⟨a1, rfl, p0, p1, p2⟩ := row_ent (HR.out.below hkw.below) j hl1
        obtain ⟨a2, rfl, q0, q1, q2⟩ := row_ent (HS.out.below hkw.below) j hm1
        rw [List.drop_eq_getElem_cons hl1, List.drop_eq_getElem_cons hm1] at hres
        generalize l[j]'hl1 = x at p0 p1 p2 hres
        generalize m[j]'hm1 = y at q0 q1 q2 hres
        obtain ⟨x1, x2, x3⟩ := x
        obtain ⟨y1, y2, y3⟩ := y
        simp only at p0 p1 p2 q0 q1 q2
        have HRES := Lib.hid hres
        have HK := Lib.hid hkw
        clear hres hkw H0
        by_cases hxy : (⟨x1, x2, x3⟩ : Ent) = ⟨y1, y2, y3⟩
        · injection hxy with h1 h2 h3
          subst h1 h2 h3
          have hres := HRES.out
          have e9 : decide ((⟨x1, x2, x3⟩ : Ent) :: l.drop (j + 1) = ⟨x1, x2, x3⟩ :: m.drop (j + 1)) = decide (l.drop (j + 1) = m.drop (j + 1)) := by simp
          rw [e9] at hres
          have HRR := Lib.hid hres
          clear hres e9 HRES
          go_wp2_with fail
          go_quiet (fail)
          go_wp2
          first
            | exact ⟨⟨j + 1, by omega, by go_num, HRR.out, HK.out.trans (Keeps.drewN wr nq)⟩, by simp [intOf]; omega⟩
            | (go_roundw
               case rel => exact ⟨j + 1, by omega, by go_num, HRR.out, HK.out.trans (Keeps.drewN wr nq)⟩
               case measure => simp [intOf]; omega)
        · have hres := HRES.out
          have e9 : decide ((⟨x1, x2, x3⟩ : Ent) :: l.drop (j + 1) = ⟨y1, y2, y3⟩ :: m.drop (j + 1)) = false := by
            rw [decide_eq_false_iff_not]
            intro h
            injection h with h _
            exact hxy h
          rw [e9] at hres
          have HRR := Lib.hid hres
          clear hres e9 HRES
          by_cases h1 : x1 = y1
          · by_cases h2 : x2 = y2
            · have h3 : ¬ x3 = y3 := fun h3 => hxy (by rw [h1, h2, h3])
              subst h1 h2
              clear hxy
              go_wp2_with fail
              go_quiet (fail)
              go_wp2
              go_ret
              exact ⟨by rw [HRR.out]; rfl, HK.out.trans (Keeps.drewN wr nq)⟩
            · subst h1
              clear hxy
              go_wp2_with fail
              go_quiet (fail)
              go_wp2
              go_ret
              exact ⟨by rw [HRR.out]; rfl, HK.out.trans (Keeps.drewN wr nq)⟩
          · clear hxy
            go_wp2_with fail
            go_quiet (fail)
            go_wp2
            go_ret
            exact ⟨by rw [HRR.out]; rfl, HK.out.trans (Keeps.drewN wr nq)⟩
      · have e1 : l.drop j = [] := List.drop_eq_nil_of_le (by rw [HN.out]; omega)
        have e2 : m.drop j = [] := List.drop_eq_nil_of_le (by rw [← HM.out]; omega)
        rw [e1, e2] at hres
        have HRES := Lib.hid hres
        clear hres e1 e2 H0
        go_wp2
        go_ret
        exact ⟨by rw [HRES.out]; rfl, hkw⟩
  · have e : decide (l = m) = false := by
      rw [decide_eq_false_iff_not]
      intro h
      exact hlen (by rw [h])
    rw [e]
    clear e hr hs
    have hq : ¬ ((l.length : Nat) : Int) = ((m.length : Nat) : Int) := by omega
    generalize l.length = N at *
    generalize m.length = M at *
    go_enter Tryz.func33, Tryz.ntmps33
    go_wp2
    go_ret
    exact ⟨rfl, Keeps.refl w⟩
end Go.Proofs.YtihodcnnappkbaaGreatDoor
namespace Go.Proofs.YtihodcnnappkbaaGreatDoor
open Go.RowKit Go.BigFrame
set_option linter.unusedVariables false
set_option linter.unusedSimpArgs false
attribute [local go_sem] run_storeF
theorem Wk.next_ents (k : Wk) (f : Fr) (a : Int) : (k.next f a).1.entries.length ≤ k.entries.length + 1 := by
  unfold Wk.next
  split
  · simp
  · split
    · simp
    · split
      · unfold Wk.take
        split
        · rw [(Wk.put_rest _ _ _).2.2.2.2.1]; simp
        · split
          · simp only
            split
            · simp
            · simp
          · simp
      · simp
theorem Takes.ents {d : Dv} : ∀ {l : List (Fr × Int)} {k k' : Wk} {a a' : Int}, Takes d l k a k' a' → k'.entries.length ≤ k.entries.length + l.length
  | [], k, k', a, a', ⟨h1, _⟩ => by subst h1; simp
  | (f, n) :: l, k, k', a, a', ⟨_, _, h3⟩ => by
    have h4 := h3.ents
    have h5 := Wk.next_ents k f a
    simp only [List.length_cons]
    omega
theorem Takes.few {l0 : List UInt8} {fs : List (Fr × Int)} {k : Wk} {q : Nat} (h : Takes (laidD l0) fs Wk.fresh 0 k (q : Int)) (hq : q ≤ 20000) : k.entries.length ≤ 20000 := by
  have h1 := h.ents
  have h2 := (h.grow (by omega) (by omega)).1
  have h3 : Wk.fresh.entries.length = 0 := rfl
  omega
set_option maxRecDepth 40000 in
set_option maxHeartbeats 8000000 in
theorem prefixL_calls (A0 : Option Addr) (c0 : Nat) (l0 : List UInt8) (a1 : Int) (w : World) (hr0 : Reads w A0 l0) (hl0 : l0.length ≤ 9223372036854775807) (hlc0 : l0.length ≤ c0) (hcm0 : c0 ≤ 9223372036854775807) (hb1 : -9223372036854775808 ≤ a1 ∧ a1 ≤ 9223372036854775807) (htb : Tabs w) (ht : Table w) :
    Calls Tryz.prog 8 #[.slice A0 l0.length c0, .int .i64 a1] w fun e w' => e = .returned (.bool true) ∧ Keeps w w' := by
  have hlv := scanLive_calls w htb ht
  have HLV := Lib.hid hlv
  clear hlv
  by_cases hbig : 100000 < l0.length
  · clear htb ht hr0
    generalize l0.length = n0 at *
    have hbig2 : (100000 : Int) < (n0 : Int) := by omega
    go_enter Tryz.func8, Tryz.ntmps8
    go_wp2_with fail
    refine HLV.out.mono ?_
    rintro e w1 ⟨rfl, hk1⟩
    go_wp2
    go_ret
    exact ⟨rfl, hk1⟩
  have hsm : l0.length ≤ 100000 := by omega
  have hld : ∀ w', Keeps w w' → Calls Tryz.prog 16 #[.slice A0 l0.length c0] w' fun e w'' => ∃ gd gr S1 S2, e = .returned (.tuple #[.pointer (some ⟨gd, 0, none⟩), .pointer (some ⟨gr, 0, none⟩)]) ∧ Pair w'' S1 S2 gd gr (laidD l0) ∧ (∀ k, S1 k → ¬ S2 k) ∧ (∀ k, S1 k ∨ S2 k → w'.heap.size ≤ k ∧ k < w''.heap.size) ∧ Keeps w' w'' :=
    fun w' hk => laid_calls A0 c0 l0 w' (by omega) (hr0.below hk.below)
  have HLD := Lib.hid hld
  have HR0 := Lib.hid hr0
  have HTB := Lib.hid htb
  have HTT := Lib.hid ht
  have hok0 : (laidD l0).Ok := laidD_ok (by omega)
  have HOK0 := Lib.hid hok0
  have hdl : (laidD l0).b.length = l0.length := rfl
  have HDL := Lib.hid hdl
  clear hr0 hld htb ht hbig hok0 hdl
  generalize hn0 : l0.length = n0 at *
  have HN0 := Lib.hid hn0
  clear hn0
  have hsm2 : ¬ (100000 : Int) < (n0 : Int) := by omega
  by_cases hmany : 20000 < n0
  · have hmany2 : (20000 : Int) < (n0 : Int) := by omega
    go_enter Tryz.func8, Tryz.ntmps8
    go_wp2_with fail
    refine HLV.out.mono ?_
    rintro e w1 ⟨rfl, hk1⟩
    go_wp2_with fail
    refine (HLD.out w1 hk1).mono ?_
    rintro e w2 ⟨gd, gr, S1, S2, rfl, _, _, _, hk2⟩
    go_wp2
    go_ret
    exact ⟨rfl, hk1.trans hk2⟩
  have hmany2 : ¬ (20000 : Int) < (n0 : Int) := by omega
  have hmanyN : ¬ 20000 < n0 := hmany
  go_enter Tryz.func8, Tryz.ntmps8
  go_wp2_with fail
  refine HLV.out.mono ?_
  rintro e w1 ⟨rfl, hk1⟩
  go_wp2_with fail
  refine (HLD.out w1 hk1).mono ?_
  rintro e w2 ⟨gd, gr, S1, S2, rfl, hp2, hdis, hS, hk2⟩
  have hk12 := hk1.trans hk2
  have hs12 := hk1.size
  have hS1 : ∀ k, S1 k → w.heap.size ≤ k ∧ k < w2.heap.size := fun k hk => by have := hS k (.inl hk); omega
  have hlow : ∀ X Y : World, Keeps w X → Touch S1 X Y → Keeps w Y := fun X Y h1 h2 => Touch.nothing (F := S1) ((Touch.of_below h1.below fun j hj h => absurd hj (by omega)).then h2) fun j hj h => by have := hS1 j h; omega
  have HLOW := Lib.hid hlow
  have HS1 := Lib.hid hS1
  have HD2 := Lib.hid hp2.1
  have HK2 := Lib.hid hk12
  have hs2 := hk12.size
  clear hp2 hdis hS hk1 hk2 hk12 hs12 hS1 hlow HLV
  go_wp2_with fail
  refine (scanNew_calls w2).mono ?_
  rintro e w3 ⟨gw, rfl, hgw, hwk3, hkp3⟩
  have hs3 := hkp3.size
  have HK3 := Lib.hid (HK2.out.trans hkp3)
  have HD3 := Lib.hid (HD2.out.below hkp3.below)
  have HWK3 := Lib.hid hwk3
  clear hwk3 hkp3 HD2 HK2
  have hrel0 : ∃ (q jj : Nat) (fs : List (Fr × Int)) (k : Wk) (d' : Dv), Value.int .i64 0 = .int .i64 (q : Int) ∧ Value.int .i64 0 = .int .i64 (jj : Int) ∧ Takes (laidD l0) fs Wk.fresh 0 k (q : Int) ∧ q ≤ n0 ∧ jj = fs.length ∧ WkV w3 (fun b => w2.heap.size ≤ b) gw k ∧ DV w3 S1 gd d' ∧ (d'.b = (laidD l0).b ∧ d'.down = false ∧ d'.Ok) ∧ d'.counted ≤ jj * 2202 ∧ Keeps w w3 ∧ w3.heap.size ≤ w3.heap.size :=
    ⟨0, 0, [], Wk.fresh, laidD l0, rfl, rfl, ⟨rfl, rfl⟩, by omega, rfl, HWK3.out, HD3.out, ⟨rfl, rfl, HOK0.out⟩, by show 0 ≤ _; omega, HK3.out, Nat.le_refl _⟩
  have HREL0 := Lib.hid hrel0
  clear hrel0 HWK3 HD3 HK3 HLD
  go_wp2_with fail
  generalize (wrap64 (a1.tmod 20 + 20)).tmod 20 = NN
  go_loopw [9, 10] (fun at' i wr => ∃ (q jj : Nat) (fs : List (Fr × Int)) (k : Wk) (d' : Dv), at' = .int .i64 (q : Int) ∧ i = .int .i64 (jj : Int) ∧ Takes (laidD l0) fs Wk.fresh 0 k (q : Int) ∧ q ≤ n0 ∧ jj = fs.length ∧ WkV wr (fun b => w2.heap.size ≤ b) gw k ∧ DV wr S1 gd d' ∧ (d'.b = (laidD l0).b ∧ d'.down = false ∧ d'.Ok) ∧ d'.counted ≤ jj * 2202 ∧ Keeps w wr ∧ w3.heap.size ≤ wr.heap.size) (fun at' _ _ => n0 - (intOf at').toNat)
  case atStart => exact HREL0.out
  case round =>
    obtain ⟨q, j, fs, k, d', rfl, rfl, htk, hq, hj, hwk, hd', ⟨hsb, hsd, hso⟩, hcn, hkr, hwr⟩ := hrel
    have hgr := (htk.grow (by omega) (by omega)).1
    have hjq : j ≤ q := by omega
    have HTKX := Lib.hid htk
    have HJ := Lib.hid hj
    have hfsq : fs.length ≤ q := by omega
    clear hj
    by_cases hlt : (j : Int) < NN
    case neg =>
      have HWX := Lib.hid hwk
      have HKX := Lib.hid hkr
      clear htk hwk hd' hsb hsd hso hkr HREL0
      have hents := HTKX.out.few (by omega)
      have hXs := HKX.out.size
      have htk1 : (l0.take q).length = q := by rw [List.length_take, HN0.out]; omega
      have hld2 := laid_calls A0 c0 (l0.take q) wr (by omega) ((HR0.out.below HKX.out.below).take q)
      rw [htk1] at hld2
      have HLD2 := Lib.hid hld2
      clear hld2
      have iq0 : (0 : Int) ≤ (q : Int) := by omega
      have iq1 : (q : Int) ≤ (c0 : Int) := by omega
      have iq2 : q ≤ c0 := by omega
      go_wp2_with fail
      refine HLD2.out.mono ?_
      rintro e v5 ⟨gd2, gr2, T1, T2, rfl, hp5, _, hT5, hk5⟩
      have hk5w := HKX.out.trans hk5
      have hTl : ∀ j, T1 j → wr.heap.size ≤ j := fun j h => (hT5 j (.inl h)).1
      have hlowT : ∀ Y Z : World, Keeps wr Y → Touch T1 Y Z → Keeps wr Z := fun Y Z h1 h2 => Touch.nothing (F := T1) ((Touch.of_below h1.below fun j hj h => absurd hj (by omega)).then h2) fun j hj h => by have := hTl j h; omega
      have hwh := whole_calls gd2 T1 (laidD (l0.take q)) v5 hp5.1 (laidD_ok (by omega)) rfl (by show 0 ≤ _; omega) fun w' h => by
        have hk := HKX.out.trans (hlowT v5 w' hk5 h)
        exact ⟨HTB.out.below hk.below, HTT.out.later hk.below⟩
      have HWH := Lib.hid hwh
      have HLT := Lib.hid hlowT
      have HK5 := Lib.hid hk5
      clear hp5 hT5 hk5 hk5w hTl hlowT hwh HLD2
      go_wp2_with fail
      refine HWH.out.mono ?_
      rintro e v6 ⟨gv, fs', k', a', er, d6, rfl, htk', hst', hwk6, _, _, _, ht6⟩
      obtain ⟨hkk, haa, hee⟩ := prefix_same HTKX.out (by rw [HN0.out]; omega) htk' hst'
      subst hkk haa hee
      have hk6 := HLT.out v5 v6 HK5.out ht6
      have HV := Lib.hid hwk6
      have HW := Lib.hid (HWX.out.below hk6.below)
      have HK6 := Lib.hid (HKX.out.trans hk6)
      clear htk' hst' hwk6 ht6 hk6 HWH HLT HK5
      go_wp2_with fail
      refine (scanFrames_calls gv _ k' v6 HV.out).mono ?_
      rintro e vx ⟨rfl, rfl⟩
      go_wp2_with fail
      refine (scanFrames_calls gw _ k' v6 HW.out).mono ?_
      rintro e vx ⟨rfl, rfl⟩
      go_wp2_with fail
      refine (scanRows_calls gv _ k' v6 HV.out).mono ?_
      rintro e vx ⟨rfl, rfl⟩
      go_wp2_with fail
      refine (scanRows_calls gw _ k' v6 HW.out).mono ?_
      rintro e vx ⟨rfl, rfl⟩
      go_wp2_with fail
      refine (scanNumber_calls gv _ k' v6 HV.out).mono ?_
      rintro e vx ⟨rfl, rfl⟩
      go_wp2_with fail
      refine (scanNumber_calls gw _ k' v6 HW.out).mono ?_
      rintro e vx ⟨rfl, rfl⟩
      go_wp2_with fail
      refine (scanSince_calls gv _ k' v6 HV.out).mono ?_
      rintro e vx ⟨rfl, rfl⟩
      go_wp2_with fail
      refine (scanSince_calls gw _ k' v6 HW.out).mono ?_
      rintro e vx ⟨rfl, rfl⟩
      go_wp2_with fail
      refine (scanClosed_calls gv _ k' v6 HV.out).mono ?_
      rintro e vx ⟨rfl, rfl⟩
      go_wp2_with fail
      refine (scanClosed_calls gw _ k' v6 HW.out).mono ?_
      rintro e vx ⟨rfl, rfl⟩
      go_wp2_with fail
      refine (scanEntries_calls gv _ k' v6 HV.out (by omega)).mono ?_
      rintro e v7 ⟨x7, rfl, hl7, hk7⟩
      obtain ⟨E7, c7, rfl, _, hrow7, _⟩ := hl7.form
      have HROW7 := Lib.hid hrow7
      have HK7 := Lib.hid hk7
      have HW7 := Lib.hid (HW.out.below hk7.below)
      clear hl7 hrow7 hk7
      go_wp2_with fail
      refine (scanEntries_calls gw _ k' v7 HW7.out (by omega)).mono ?_
      rintro e v8 ⟨x8, rfl, hl8, hk8⟩
      obtain ⟨E8, c8, rfl, _, hrow8, _⟩ := hl8.form
      have hse := sameEntries_calls E7 E8 c7 c8 k'.entries k'.entries v8 (by omega) (by omega) (HROW7.out.below hk8.below) hrow8
      rw [show decide (k'.entries = k'.entries) = true by simp] at hse
      have HSE := Lib.hid hse
      have HK8 := Lib.hid ((HK6.out.trans HK7.out).trans hk8)
      clear hl8 hrow8 hk8 hse
      go_wp2_with fail
      refine HSE.out.mono ?_
      rintro e v9 ⟨rfl, hk9⟩
      have HK9 := Lib.hid (HK8.out.trans hk9)
      go_wp2
      go_ret
      exact ⟨rfl, HK9.out⟩
    case pos =>
    have hwsz := hkr.size
    have hfs := fetch_same (d := laidD l0) (d' := d') hsb (by rw [hsd]; rfl) (q : Int)
    have hat := scanAt_calls gd S1 d' (q : Int) wr hd' hso (by omega) fun w' h => ⟨HTB.out.below (HLOW.out wr w' hkr h).below, HTT.out.later (HLOW.out wr w' hkr h).below⟩
    have HAT := Lib.hid hat
    obtain ⟨ff1, ff2, ff3, ff4, ff5⟩ := fetchD_facts d' (q : Int)
    have HF := Lib.hid ((⟨ff1.trans hsb, ff2.trans hsd, ff5 hso⟩ : (fetchD d' (q : Int)).b = (laidD l0).b ∧ (fetchD d' (q : Int)).down = false ∧ (fetchD d' (q : Int)).Ok))
    have HKR := Lib.hid hkr
    have HFS := Lib.hid hfs
    have HKO := Lib.hid (htk.ok wkFresh_ok)
    have HWK := Lib.hid hwk.here
    clear htk hwk hd' hsb hsd hso hkr hfs hat ff1 ff2 ff3 ff5 HREL0
    go_wp2_with fail
    refine HAT.out.mono ?_
    rintro e w4 ⟨hpost, hd4, ht4⟩
    obtain ⟨P1, m1, P2, m2, P3, m3, rfl, hfr4⟩ := hpost.form
    rw [HFS.out] at hfr4 ⊢
    have hk4 := HLOW.out wr w4 HKR.out ht4
    have hs4 := ht4.size
    obtain ⟨w5, hw5⟩ : ∃ w5, w5 = w4.alloc (.cells (frCells P1 m1 P2 m2 P3 m3 (outF (fetch (laidD l0) (q : Int))).1) 36) := ⟨_, rfl⟩
    have hk45 : Keeps w4 w5 := by rw [hw5]; exact (Keeps.refl w4).alloc _
    have hb5 : w5.heap[w4.heap.size]? = some (.cells (frCells P1 m1 P2 m2 P3 m3 (outF (fetch (laidD l0) (q : Int))).1) 36 (0, 0)) := by rw [hw5]; exact obj_new _ _
    have hs45 := hk45.size
    have hk5 := hk4.trans hk45
    have hwk5 : WkV w5 (fun b => w2.heap.size ≤ b ∧ b < wr.heap.size) gw k := (HWK.out.keep ht4 fun b _ h h' => by have := (HS1.out b h').2; have := h.1; omega).below hk45.below
    have hfr5 := (hfr4.later hk45.below).mono fun b hb h => (⟨hb, fun h2 => by have h3 : wr.heap.size ≤ b := h; have := h2.2; omega⟩ : b < w5.heap.size ∧ ¬ (w2.heap.size ≤ b ∧ b < wr.heap.size))
    have HD5 := Lib.hid (hd4.below hk45.below)
    have HWK5 := Lib.hid hwk5
    have HFR5 := Lib.hid hfr5
    have HB5 := Lib.hid hb5
    have HK5' := Lib.hid hk5
    clear hpost hd4 ht4 hfr4 hk4 hk45 hb5 hk5 hwk5 hfr5 HAT HWK
    cases hr : fetch (laidD l0) (q : Int) with
    | error er =>
      obtain ⟨hne, _⟩ := fetch_err hr
      have q2 : (er != 0) = true := by simpa using hne
      rw [hr] at hw5
      have HWX := Lib.hid (HWK5.out.mono fun b _ h => h.1)
      have HKX := HK5'
      unfold outF frCells frZero at *
      clear hr hne HFR5 HB5 HFS HWK5 HK5' HD5
      simp only [List.length_nil] at hw5 ⊢
      have hents := HTKX.out.few (by omega)
      have hXs := HKX.out.size
      have htk1 : (l0.take q).length = q := by rw [List.length_take, HN0.out]; omega
      have hld2 := laid_calls A0 c0 (l0.take q) w5 (by omega) ((HR0.out.below HKX.out.below).take q)
      rw [htk1] at hld2
      have HLD2 := Lib.hid hld2
      clear hld2
      have iq0 : (0 : Int) ≤ (q : Int) := by omega
      have iq1 : (q : Int) ≤ (c0 : Int) := by omega
      have iq2 : q ≤ c0 := by omega
      go_wp2_with fail
      rw [← hw5]
      clear hw5
      refine HLD2.out.mono ?_
      rintro e v5 ⟨gd2, gr2, T1, T2, rfl, hp5, _, hT5, hk5⟩
      have hk5w := HKX.out.trans hk5
      have hTl : ∀ j, T1 j → w5.heap.size ≤ j := fun j h => (hT5 j (.inl h)).1
      have hlowT : ∀ Y Z : World, Keeps w5 Y → Touch T1 Y Z → Keeps w5 Z := fun Y Z h1 h2 => Touch.nothing (F := T1) ((Touch.of_below h1.below fun j hj h => absurd hj (by omega)).then h2) fun j hj h => by have := hTl j h; omega
      have hwh := whole_calls gd2 T1 (laidD (l0.take q)) v5 hp5.1 (laidD_ok (by omega)) rfl (by show 0 ≤ _; omega) fun w' h => by
        have hk := HKX.out.trans (hlowT v5 w' hk5 h)
        exact ⟨HTB.out.below hk.below, HTT.out.later hk.below⟩
      have HWH := Lib.hid hwh
      have HLT := Lib.hid hlowT
      have HK5 := Lib.hid hk5
      clear hp5 hT5 hk5 hk5w hTl hlowT hwh HLD2
      go_wp2_with fail
      refine HWH.out.mono ?_
      rintro e v6 ⟨gv, fs', k', a', er, d6, rfl, htk', hst', hwk6, _, _, _, ht6⟩
      obtain ⟨hkk, haa, hee⟩ := prefix_same HTKX.out (by rw [HN0.out]; omega) htk' hst'
      subst hkk haa hee
      have hk6 := HLT.out v5 v6 HK5.out ht6
      have HV := Lib.hid hwk6
      have HW := Lib.hid (HWX.out.below hk6.below)
      have HK6 := Lib.hid (HKX.out.trans hk6)
      clear htk' hst' hwk6 ht6 hk6 HWH HLT HK5
      go_wp2_with fail
      refine (scanFrames_calls gv _ k' v6 HV.out).mono ?_
      rintro e vx ⟨rfl, rfl⟩
      go_wp2_with fail
      refine (scanFrames_calls gw _ k' v6 HW.out).mono ?_
      rintro e vx ⟨rfl, rfl⟩
      go_wp2_with fail
      refine (scanRows_calls gv _ k' v6 HV.out).mono ?_
      rintro e vx ⟨rfl, rfl⟩
      go_wp2_with fail
      refine (scanRows_calls gw _ k' v6 HW.out).mono ?_
      rintro e vx ⟨rfl, rfl⟩
      go_wp2_with fail
      refine (scanNumber_calls gv _ k' v6 HV.out).mono ?_
      rintro e vx ⟨rfl, rfl⟩
      go_wp2_with fail
      refine (scanNumber_calls gw _ k' v6 HW.out).mono ?_
      rintro e vx ⟨rfl, rfl⟩
      go_wp2_with fail
      refine (scanSince_calls gv _ k' v6 HV.out).mono ?_
      rintro e vx ⟨rfl, rfl⟩
      go_wp2_with fail
      refine (scanSince_calls gw _ k' v6 HW.out).mono ?_
      rintro e vx ⟨rfl, rfl⟩
      go_wp2_with fail
      refine (scanClosed_calls gv _ k' v6 HV.out).mono ?_
      rintro e vx ⟨rfl, rfl⟩
      go_wp2_with fail
      refine (scanClosed_calls gw _ k' v6 HW.out).mono ?_
      rintro e vx ⟨rfl, rfl⟩
      go_wp2_with fail
      refine (scanEntries_calls gv _ k' v6 HV.out (by omega)).mono ?_
      rintro e v7 ⟨x7, rfl, hl7, hk7⟩
      obtain ⟨E7, c7, rfl, _, hrow7, _⟩ := hl7.form
      have HROW7 := Lib.hid hrow7
      have HK7 := Lib.hid hk7
      have HW7 := Lib.hid (HW.out.below hk7.below)
      clear hl7 hrow7 hk7
      go_wp2_with fail
      refine (scanEntries_calls gw _ k' v7 HW7.out (by omega)).mono ?_
      rintro e v8 ⟨x8, rfl, hl8, hk8⟩
      obtain ⟨E8, c8, rfl, _, hrow8, _⟩ := hl8.form
      have hse := sameEntries_calls E7 E8 c7 c8 k'.entries k'.entries v8 (by omega) (by omega) (HROW7.out.below hk8.below) hrow8
      rw [show decide (k'.entries = k'.entries) = true by simp] at hse
      have HSE := Lib.hid hse
      have HK8 := Lib.hid ((HK6.out.trans HK7.out).trans hk8)
      clear hl8 hrow8 hk8 hse
      go_wp2_with fail
      refine HSE.out.mono ?_
      rintro e v9 ⟨rfl, hk9⟩
      have HK9 := Lib.hid (HK8.out.trans hk9)
      go_wp2
      go_ret
      exact ⟨rfl, HK9.out⟩
    | ok p =>
      obtain ⟨f, n⟩ := p
      rw [hr] at hw5 HFR5 HB5
      obtain ⟨lf, hlf, hfw, hf0, hfn, hf2, hfb, _⟩ := fetch_back hr
      rw [HDL.out] at hfb
      obtain ⟨r, hrr⟩ : ∃ r : Nat, r = q + lf.length := ⟨_, rfl⟩
      have hnr : n = (r : Int) := by omega
      subst hnr
      have hlowU : ∀ X : World, Touch (fun b => w2.heap.size ≤ b ∧ b < wr.heap.size) w5 X → Keeps w X := fun X h => Touch.nothing (F := fun b => w2.heap.size ≤ b ∧ b < wr.heap.size) ((Touch.of_below HK5'.out.below fun j hj h => absurd hj (by omega)).then h) fun b hb h => by have := h.1; omega
      have hnx := scanNext_calls gw (fun b => w2.heap.size ≤ b ∧ b < wr.heap.size) k P1 P2 P3 m1 m2 m3 f (q : Int) w5 HWK5.out HKO.out HFR5.out hfw fun w' h => ⟨HTB.out.below (hlowU w' h).below, HTT.out.later (hlowU w' h).below⟩
      have HNX := Lib.hid hnx
      have HR := Lib.hid hr
      have HLU := Lib.hid hlowU
      have hqr : q < r := by omega
      have hrn : r ≤ n0 := by omega
      have hs25 := HK5'.out.size
      clear hnx hlf hfw HFR5 hfn hf2 hfb hlowU hrr HFS
      unfold outF frCells at *
      obtain ⟨⟨x0, x1, x2, x3, x4, x5, x6, x7, x8, x9, x10⟩, _⟩ := cells11 HB5.out
      rw [hw5] at x0 x1 x2 x3 x4 x5 x6 x7 x8 x9 x10
      clear hr HB5
      simp only at hw5 HNX x0 x1 x2 x3 x4 x5 x6 x7 x8 x9 x10 ⊢
      generalize f.cols.length = y1 at *
      generalize f.block.length = y2 at *
      generalize f.ents.length = y3 at *
      rcases next_or k f (q : Int) with h0 | h1
      · rw [h0] at HNX
        go_wp2_with fail
        rw [← hw5]
        clear hw5 x0 x1 x2 x3 x4 x5 x6 x7 x8 x9 x10
        refine HNX.out.mono ?_
        rintro e w6 ⟨rfl, hwk6, ht6⟩
        have hs6 := ht6.size
        have HREL : Hid (∃ (q jj : Nat) (fs : List (Fr × Int)) (k : Wk) (d' : Dv), Value.int .i64 (r : Int) = .int .i64 (q : Int) ∧ Value.int .i64 ((j : Int) + 1) = .int .i64 (jj : Int) ∧ Takes (laidD l0) fs Wk.fresh 0 k (q : Int) ∧ q ≤ n0 ∧ jj = fs.length ∧ WkV w6 (fun b => w2.heap.size ≤ b) gw k ∧ DV w6 S1 gd d' ∧ (d'.b = (laidD l0).b ∧ d'.down = false ∧ d'.Ok) ∧ d'.counted ≤ jj * 2202 ∧ Keeps w w6 ∧ w3.heap.size ≤ w6.heap.size) := Lib.hid ⟨r, j + 1, fs ++ [(f, (r : Int))], (k.next f (q : Int)).1, fetchD d' (q : Int), rfl, by go_num, HTKX.out.snoc HR.out h0, hrn, by rw [List.length_append, HJ.out]; rfl, hwk6.mono fun b _ h => by
            rcases h with h | h
            · exact h.1
            · show w2.heap.size ≤ b
              omega, HD5.out.keep ht6 fun b _ h h' => by have := (HS1.out b h).2; have := h'.1; omega, HF.out, by rw [Nat.add_mul]; omega, HLU.out w6 ht6, by omega⟩
        have hjb : (j : Int) < 60000 := by omega
        clear hwk6 ht6 HNX HWK5 HD5 HK5' HTKX HLU
        go_wp2
        exact ⟨HREL.out, by simp [intOf]; omega⟩
      · rw [h1] at HNX
        go_wp2_with fail
        rw [← hw5]
        clear hw5 x0 x1 x2 x3 x4 x5 x6 x7 x8 x9 x10
        refine HNX.out.mono ?_
        rintro e w6 ⟨rfl, hwk6, ht6⟩
        have hs6 := ht6.size
        have HWX : Hid (WkV w6 (fun b => w2.heap.size ≤ b) gw k) := Lib.hid (hwk6.mono fun b _ h => by
            rcases h with h | h
            · exact h.1
            · show w2.heap.size ≤ b
              omega)
        have HKX := Lib.hid (HLU.out w6 ht6)
        clear hwk6 ht6 HNX HWK5 HD5 HK5' HLU h1
        have hents := HTKX.out.few (by omega)
        have hXs := HKX.out.size
        have htk1 : (l0.take q).length = q := by rw [List.length_take, HN0.out]; omega
        have hld2 := laid_calls A0 c0 (l0.take q) w6 (by omega) ((HR0.out.below HKX.out.below).take q)
        rw [htk1] at hld2
        have HLD2 := Lib.hid hld2
        clear hld2
        have iq0 : (0 : Int) ≤ (q : Int) := by omega
        have iq1 : (q : Int) ≤ (c0 : Int) := by omega
        have iq2 : q ≤ c0 := by omega
        go_wp2_with fail
        refine HLD2.out.mono ?_
        rintro e v5 ⟨gd2, gr2, T1, T2, rfl, hp5, _, hT5, hk5⟩
        have hk5w := HKX.out.trans hk5
        have hTl : ∀ j, T1 j → w6.heap.size ≤ j := fun j h => (hT5 j (.inl h)).1
        have hlowT : ∀ Y Z : World, Keeps w6 Y → Touch T1 Y Z → Keeps w6 Z := fun Y Z h1 h2 => Touch.nothing (F := T1) ((Touch.of_below h1.below fun j hj h => absurd hj (by omega)).then h2) fun j hj h => by have := hTl j h; omega
        have hwh := whole_calls gd2 T1 (laidD (l0.take q)) v5 hp5.1 (laidD_ok (by omega)) rfl (by show 0 ≤ _; omega) fun w' h => by
          have hk := HKX.out.trans (hlowT v5 w' hk5 h)
          exact ⟨HTB.out.below hk.below, HTT.out.later hk.below⟩
        have HWH := Lib.hid hwh
        have HLT := Lib.hid hlowT
        have HK5 := Lib.hid hk5
        clear hp5 hT5 hk5 hk5w hTl hlowT hwh HLD2
        go_wp2_with fail
        refine HWH.out.mono ?_
        rintro e v6 ⟨gv, fs', k', a', er, d6, rfl, htk', hst', hwk6, _, _, _, ht6⟩
        obtain ⟨hkk, haa, hee⟩ := prefix_same HTKX.out (by rw [HN0.out]; omega) htk' hst'
        subst hkk haa hee
        have hk6 := HLT.out v5 v6 HK5.out ht6
        have HV := Lib.hid hwk6
        have HW := Lib.hid (HWX.out.below hk6.below)
        have HK6 := Lib.hid (HKX.out.trans hk6)
        clear htk' hst' hwk6 ht6 hk6 HWH HLT HK5
        go_wp2_with fail
        refine (scanFrames_calls gv _ k' v6 HV.out).mono ?_
        rintro e vx ⟨rfl, rfl⟩
        go_wp2_with fail
        refine (scanFrames_calls gw _ k' v6 HW.out).mono ?_
        rintro e vx ⟨rfl, rfl⟩
        go_wp2_with fail
        refine (scanRows_calls gv _ k' v6 HV.out).mono ?_
        rintro e vx ⟨rfl, rfl⟩
        go_wp2_with fail
        refine (scanRows_calls gw _ k' v6 HW.out).mono ?_
        rintro e vx ⟨rfl, rfl⟩
        go_wp2_with fail
        refine (scanNumber_calls gv _ k' v6 HV.out).mono ?_
        rintro e vx ⟨rfl, rfl⟩
        go_wp2_with fail
        refine (scanNumber_calls gw _ k' v6 HW.out).mono ?_
        rintro e vx ⟨rfl, rfl⟩
        go_wp2_with fail
        refine (scanSince_calls gv _ k' v6 HV.out).mono ?_
        rintro e vx ⟨rfl, rfl⟩
        go_wp2_with fail
        refine (scanSince_calls gw _ k' v6 HW.out).mono ?_
        rintro e vx ⟨rfl, rfl⟩
        go_wp2_with fail
        refine (scanClosed_calls gv _ k' v6 HV.out).mono ?_
        rintro e vx ⟨rfl, rfl⟩
        go_wp2_with fail
        refine (scanClosed_calls gw _ k' v6 HW.out).mono ?_
        rintro e vx ⟨rfl, rfl⟩
        go_wp2_with fail
        refine (scanEntries_calls gv _ k' v6 HV.out (by omega)).mono ?_
        rintro e v7 ⟨x7, rfl, hl7, hk7⟩
        obtain ⟨E7, c7, rfl, _, hrow7, _⟩ := hl7.form
        have HROW7 := Lib.hid hrow7
        have HK7 := Lib.hid hk7
        have HW7 := Lib.hid (HW.out.below hk7.below)
        clear hl7 hrow7 hk7
        go_wp2_with fail
        refine (scanEntries_calls gw _ k' v7 HW7.out (by omega)).mono ?_
        rintro e v8 ⟨x8, rfl, hl8, hk8⟩
        obtain ⟨E8, c8, rfl, _, hrow8, _⟩ := hl8.form
        have hse := sameEntries_calls E7 E8 c7 c8 k'.entries k'.entries v8 (by omega) (by omega) (HROW7.out.below hk8.below) hrow8
        rw [show decide (k'.entries = k'.entries) = true by simp] at hse
        have HSE := Lib.hid hse
        have HK8 := Lib.hid ((HK6.out.trans HK7.out).trans hk8)
        clear hl8 hrow8 hk8 hse
        go_wp2_with fail
        refine HSE.out.mono ?_
        rintro e v9 ⟨rfl, hk9⟩
        have HK9 := Lib.hid (HK8.out.trans hk9)
        go_wp2
        go_ret
        exact ⟨rfl, HK9.out⟩
end Go.Proofs.YtihodcnnappkbaaGreatDoor
