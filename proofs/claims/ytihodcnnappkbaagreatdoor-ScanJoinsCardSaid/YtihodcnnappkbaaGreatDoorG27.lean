/-
  What a frame's reader gives up with is below 140: plain. No condition. A walk over a whole file: plain. No condition. The walk of scan.Whole. Condition: the file stands for its plain machine, that is up; the tables are as laid, whatever is done in the file's blocks. The walk of the law ScanJoins. Condition: the bytes read; the tables are as laid.
-/
import Derived.Test.YtihodcnnappkbaaGreatDoorG10
import Derived.Test.YtihodcnnappkbaaGreatDoorG9
import Derived.Test.YtihodcnnappkbaaGreatDoorG14
import Derived.Test.YtihodcnnappkbaaGreatDoorG11
import Derived.Test.YtihodcnnappkbaaGreatDoorG13
import Derived.Test.YtihodcnnappkbaaGreatDoorG16
import Derived.Test.YtihodcnnappkbaaGreatDoorG18
import Derived.Test.YtihodcnnappkbaaGreatDoorG19
import Derived.Test.YtihodcnnappkbaaGreatDoorG20
import Derived.Test.YtihodcnnappkbaaGreatDoorG12
namespace Go.Proofs.YtihodcnnappkbaaGreatDoor
open Go.RowKit
set_option linter.unusedSimpArgs false
set_option linter.unusedVariables false
theorem dec_back {run : List UInt8} {f : Fr} (h : decF run = .ok f) : encF f = .ok (0 :: (run ++ [0])) := by
  obtain ⟨h0, _, _, _, h2, h3⟩ := decF_ok h
  unfold encF encFin
  have e : frBody f ++ le4 (Crc.sum (nats (frBody f))) = checked (frBody f) := rfl
  rw [if_pos h0, e, ← h2, if_neg (by omega)]
end Go.Proofs.YtihodcnnappkbaaGreatDoor
namespace Go.Proofs.YtihodcnnappkbaaGreatDoor
open Go.RowKit Go.BigFrame
set_option linter.unusedVariables false
set_option linter.unusedSimpArgs false
theorem fetch_same {d d' : Dv} (hb : d'.b = d.b) (hd : d'.down = d.down) (a : Int) : fetch d' a = fetch d a := by
  unfold fetch
  rw [hb, hd]
end Go.Proofs.YtihodcnnappkbaaGreatDoor
namespace Go.Proofs.YtihodcnnappkbaaGreatDoor
set_option linter.unusedVariables false
set_option linter.unusedSimpArgs false
theorem lg_low : ∀ (l : List UInt8) (k n : Nat) (e : Int), lg l k n = .error e → e < 140
  | [], k, n, e, h => by simp [lg] at h; omega
  | c :: l, k, n, e, h => by
    rw [lg] at h
    split at h
    · injection h with h; omega
    · split at h
      · cases h
      · exact lg_low l _ _ _ h
theorem lebGet_low {l : List UInt8} {a : Nat} {e : Int} (h : lebGet l a = .error e) : e < 140 := by
  unfold lebGet at h
  split at h
  · rename_i e1 hl
    injection h with h
    rw [← h]
    exact lg_low _ _ _ _ hl
  · cases h
theorem rByte_low {l : List UInt8} {a : Nat} {e : Int} (h : rByte l a = .error e) : e < 140 := by
  unfold rByte at h
  split at h
  · cases h
  · injection h with h; omega
theorem rBit_low {l : List UInt8} {a : Nat} {e : Int} (h : rBit l a = .error e) : e < 140 := by have := rBit_err h; omega
theorem rText_low {most : Nat} {long : Int} {l : List UInt8} {a : Nat} {e : Int} (hl : long < 140) (h : rText most long l a = .error e) : e < 140 := by
  unfold rText at h
  split at h
  · rename_i e1 hg
    injection h with h
    rw [← h]
    exact lebGet_low hg
  · split at h
    · split at h
      · cases h
      · injection h with h; omega
    · injection h with h; omega
theorem rFloat_low {l : List UInt8} {a : Nat} {e : Int} (h : rFloat l a = .error e) : e < 140 := by
  unfold rFloat at h
  split at h
  · split at h
    · cases h
    · injection h with h; omega
  · injection h with h; omega
theorem rKind_low : ∀ (n : Nat) (l : List UInt8) (a : Nat) (e : Int), rKind n l a = .error e → e < 140
  | 0, l, a, e, h => by rw [rKind] at h; injection h with h; omega
  | n + 1, l, a, e, h => by
    rw [rKind] at h
    split at h
    · rename_i e1 hb
      injection h with h
      rw [← h]; exact rByte_low hb
    · split at h
      · injection h with h; omega
      · split at h
        · unfold rKindOf at h
          split at h
          · rename_i e1 hk
            injection h with h
            rw [← h]; exact rKind_low n _ _ _ hk
          · cases h
        · cases h
theorem rMany_low {f : Nat → Except Int (Va × Nat)} (hf : ∀ a e, f a = .error e → e < 140) : ∀ (n a : Nat) (vs : List Va) (e : Int), rMany f n a vs = .error e → e < 140
  | 0, a, vs, e, h => by rw [rMany] at h; cases h
  | n + 1, a, vs, e, h => by
    rw [rMany] at h
    split at h
    · rename_i e1 hb
      injection h with h
      rw [← h]; exact hf _ _ hb
    · exact rMany_low hf n _ _ _ h
theorem rKinds_low {k : Int} {f : Nat → Except Int (Va × Nat)} {l : List UInt8} {a : Nat} {e : Int} (hf : k = 6 ∨ k = 7 → ∀ a e, f a = .error e → e < 140) (h : rKinds k f l a = .error e) : e < 140 := by
  unfold rKinds at h
  split at h
  · split at h
    · rename_i e1 hb; injection h with h; rw [← h]; exact rBit_low hb
    · cases h
  split at h
  · split at h
    · rename_i e1 hb; injection h with h; rw [← h]; exact lebGet_low hb
    · cases h
  split at h
  · split at h
    · rename_i e1 hb; injection h with h; rw [← h]; exact rFloat_low hb
    · cases h
  split at h
  · split at h
    · rename_i e1 hb; injection h with h; rw [← h]; exact rText_low (by omega) hb
    · split at h
      · cases h
      · injection h with h; omega
  split at h
  · split at h
    · rename_i e1 hb; injection h with h; rw [← h]; exact rText_low (by omega) hb
    · cases h
  split at h
  · rename_i h6
    split at h
    · rename_i e1 hb; injection h with h; rw [← h]; exact rBit_low hb
    · unfold rList at h
      split at h
      · rename_i e1 hb; injection h with h; rw [← h]; exact rMany_low (hf (.inl h6)) _ _ _ _ hb
      · cases h
  split at h
  · rename_i h7
    split at h
    · rename_i e1 hb; injection h with h; rw [← h]; exact lebGet_low hb
    · split at h
      · unfold rList at h
        split at h
        · rename_i e1 hb; injection h with h; rw [← h]; exact rMany_low (hf (.inr h7)) _ _ _ _ hb
        · cases h
      · injection h with h; omega
  · cases h
theorem rValue_low (n : Nat) : ∀ (t : Ty) (l : List UInt8) (a : Nat) (e : Int), SizeOf.sizeOf t < n → t.good = true → rValue t l a = .error e → e < 140 := by
  induction n with
  | zero => intro t l a e hn; exact absurd hn (by omega)
  | succ n ih =>
    intro t l a e hn hg h
    cases t with
    | mk k ts =>
      rw [rValue] at h
      refine rKinds_low (fun h67 => ?_) h
      have hlen : ts.length = 1 := by
        simp only [Ty.good, Bool.and_eq_true, beq_iff_eq, decide_eq_decide] at hg
        exact hg.1.1.1 h67
      obtain ⟨t, rfl⟩ := List.length_eq_one_iff.1 hlen
      have hgt : t.good = true := by
        simp only [Ty.good, Ty.goods, Bool.and_eq_true] at hg
        exact hg.2.1
      have hsz : SizeOf.sizeOf t < n := by
        simp only [Ty.mk.sizeOf_spec, List.cons.sizeOf_spec, List.nil.sizeOf_spec] at hn
        omega
      intro a e h
      rw [rHead] at h
      exact ih t l a e hsz hgt h
theorem rCol_low {l : List UInt8} {cols : List Col} {a : Nat} {e : Int} (h : rCol l cols a = .error e) : e < 140 := by
  unfold rCol at h
  split at h
  · rename_i e1 hb; injection h with h; rw [← h]; exact rText_low (by omega) hb
  · split at h
    · injection h with h; omega
    · split at h
      · injection h with h; omega
      · split at h
        · rename_i e1 hb; injection h with h; rw [← h]; exact rKind_low _ _ _ _ hb
        · rename_i ty k2 hk
          split at h
          · rename_i e1 hb; injection h with h; rw [← h]; exact rBit_low hb
          · split at h
            · split at h
              · rename_i e1 hb; injection h with h; rw [← h]; exact rValue_low _ _ _ _ _ (Nat.lt_succ_self _) (rKind_good _ _ _ _ _ hk) hb
              · cases h
            · cases h
theorem rCols_low {l : List UInt8} : ∀ (n a : Nat) (cols : List Col) (e : Int), rCols l n a cols = .error e → e < 140
  | 0, a, cols, e, h => by rw [rCols] at h; cases h
  | n + 1, a, cols, e, h => by
    rw [rCols] at h
    split at h
    · rename_i e1 hb; injection h with h; rw [← h]; exact rCol_low hb
    · exact rCols_low n _ _ _ h
theorem rSchema_low {l : List UInt8} {a : Nat} {e : Int} (h : rSchema l a = .error e) : e < 140 := by
  unfold rSchema at h
  split at h
  · rename_i e1 hb; injection h with h; rw [← h]; exact lebGet_low hb
  · split at h
    · injection h with h; omega
    · split at h
      · injection h with h; omega
      · unfold rEnd at h
        split at h
        · rename_i e1 hb; injection h with h; rw [← h]; exact rCols_low _ _ _ _ hb
        · split at h
          · cases h
          · injection h with h; omega
theorem decodeS_low {l : List UInt8} {e : Int} (h : decodeS l = .error e) : e < 140 := by
  unfold decodeS at h
  split at h
  · injection h with h; omega
  · exact rSchema_low h
theorem unGo_lt (n : Nat) : ∀ (s b : List UInt8) (full : Bool), s.length ≤ n → (unGo s b full).2 < 140 := by
  induction n with
  | zero =>
    intro s b full h
    cases s with
    | nil => rw [unGo]; simp
    | cons c t => simp at h
  | succ n ih =>
    intro s b full h
    cases s with
    | nil => rw [unGo]; simp
    | cons c t =>
      rw [unGo_cons]
      split
      · simp
      · split
        · split <;> simp
        · refine ih _ _ _ ?_
          simp only [List.length_cons, List.length_drop] at h ⊢
          omega
theorem unstuff_lt (s : List UInt8) : (unstuffOf s).2 < 140 := by
  unfold unstuffOf
  split
  · simp
  · split
    · simp
    · exact unGo_lt _ _ _ _ (Nat.le_refl _)
theorem takeF_low {l : List UInt8} {e : Int} (h : takeF l = .error e) : e < 140 := by
  cases l with
  | nil => injection h with h; omega
  | cons b t =>
    rw [takeF] at h
    split at h
    · unfold takeS at h
      simp only at h
      split at h
      · injection h with h; omega
      · split at h
        · rename_i hd
          injection h with h
          subst h
          exact decodeS_low hd
        · cases h
    split at h
    · unfold takeD at h
      simp only at h
      split at h
      · injection h with h; omega
      · cases h
    split at h
    · unfold takeI at h
      simp only at h
      split at h
      · injection h with h; omega
      · cases h
    · injection h with h; omega
theorem decF_low {l : List UInt8} {e : Int} (h : decF l = .error e) : e < 140 := by
  unfold decF at h
  split at h
  · injection h with h; omega
  split at h
  · rename_i h2
    injection h with h
    rw [← h]
    exact unstuff_lt _
  split at h
  · injection h with h; omega
  split at h
  · injection h with h; omega
  · exact takeF_low h
end Go.Proofs.YtihodcnnappkbaaGreatDoor
namespace Go.Proofs.YtihodcnnappkbaaGreatDoor
open Go.RowKit Go.BigFrame
set_option linter.unusedVariables false
set_option linter.unusedSimpArgs false
theorem fetch_ok {d : Dv} {a : Int} {f : Fr} {n : Int} (h : fetch d a = .ok (f, n)) :
    ∃ run : List UInt8, decF run = .ok f ∧ 0 ≤ a ∧ n = a + (run.length : Int) + 2 ∧ n ≤ (d.b.length : Int) ∧ (d.b.drop a.toNat).take (run.length + 2) = 0 :: (run ++ [0]) ∧ d.down = false := by
  unfold fetch at h
  cases hdn : d.down with
  | true => rw [hdn] at h; simp at h
  | false =>
    rw [hdn] at h
    simp only [Bool.false_eq_true, if_false] at h
    split at h
    · cases h
    rename_i h1
    split at h
    · cases h
    rename_i h2
    generalize hq : (d.b.drop a.toNat).take 2202 = q at h
    unfold fetchB at h
    cases q with
    | nil => cases h
    | cons x t =>
      simp only at h
      split at h
      · cases h
      rename_i hx
      have hx0 : x = 0 := Classical.byContradiction hx
      subst hx0
      unfold fetchT at h
      split at h
      · rename_i hlt
        split at h
        · cases h
        · cases hde : decF (nz t) with
          | error e => rw [hde] at h; cases h
          | ok g =>
            rw [hde] at h
            simp only [fetchF, Except.ok.injEq, Prod.mk.injEq] at h
            obtain ⟨rfl, rfl⟩ := h
            have hql := congrArg List.length hq
            rw [List.length_take, List.length_drop, List.length_cons] at hql
            have ht : t.take ((nz t).length + 1) = nz t ++ [0] := by
              have h3 := nz_stop t hlt
              rw [List.getD_eq_getElem?_getD, List.getElem?_eq_getElem hlt] at h3
              simp only [Option.getD_some] at h3
              rw [List.take_succ_eq_append_getElem hlt, nz_take, h3]
            refine ⟨nz t, hde, by omega, rfl, by omega, ?_, rfl⟩
            have h4 : (d.b.drop a.toNat).take ((nz t).length + 2) = ((d.b.drop a.toNat).take 2202).take ((nz t).length + 2) := by
              rw [List.take_take, Nat.min_eq_left (by omega)]
            rw [h4, hq, List.take_succ_cons, ht]
      · split at h
        · cases h
        · cases h
theorem fetch_back {d : Dv} {a : Int} {f : Fr} {n : Int} (h : fetch d a = .ok (f, n)) :
    ∃ l : List UInt8, encF f = .ok l ∧ f.wf ∧ 0 ≤ a ∧ n = a + (l.length : Int) ∧ 2 ≤ l.length ∧ n ≤ (d.b.length : Int) ∧ (d.b.drop a.toNat).take l.length = l := by
  obtain ⟨run, h1, h2, h3, h4, h5, _⟩ := fetch_ok h
  have hl : (0 :: (run ++ [0]) : List UInt8).length = run.length + 2 := by simp
  refine ⟨0 :: (run ++ [0]), dec_back h1, (decF_ok h1).2.1, h2, by rw [hl]; omega, by omega, h4, by rw [hl]; exact h5⟩
theorem fetch_err {d : Dv} {a : Int} {e : Int} (h : fetch d a = .error e) : e ≠ 0 ∧ (e = 140 → a = (d.b.length : Int)) := by
  have hF : ∀ {r : Except Int Fr} {p : Int}, fetchF r p = .error e → r = .error e := fun {r p} h => by
    cases r with
    | error x => cases h; rfl
    | ok g => cases h
  have hT : ∀ {t : List UInt8}, fetchT t a = .error e → e ≠ 0 ∧ e ≠ 140 := fun {t} h => by
    unfold fetchT at h
    split at h
    · split at h
      · injection h with h; omega
      · have h1 := hF h
        have h2 := decF_nz h1
        have h3 := decF_low h1
        omega
    · split at h
      · injection h with h; omega
      · injection h with h; omega
  unfold fetch at h
  split at h
  · injection h with h; omega
  · split at h
    · injection h with h; omega
    · split at h
      · rename_i h1
        exact ⟨by injection h with h; omega, fun _ => h1⟩
      · unfold fetchB at h
        split at h
        · injection h with h; omega
        · split at h
          · injection h with h; omega
          · have := hT h
            exact ⟨this.1, fun e => absurd e this.2⟩
theorem next_or (k : Wk) (f : Fr) (a : Int) : (k.next f a).2 = 0 ∨ k.next f a = (k, 143) := by
  unfold Wk.next
  split
  · exact .inr rfl
  · split
    · exact .inr rfl
    · split
      · exact .inl rfl
      · exact .inr rfl
def Takes (d : Dv) : List (Fr × Int) → Wk → Int → Wk → Int → Prop
  | [], k, a, k', a' => k = k' ∧ a = a'
  | (f, n) :: l, k, a, k', a' => fetch d a = .ok (f, n) ∧ (k.next f a).2 = 0 ∧ Takes d l (k.next f a).1 n k' a'
def Stops (d : Dv) (k : Wk) (a e : Int) : Prop := fetch d a = .error e ∨ ∃ f n, fetch d a = .ok (f, n) ∧ k.next f a = (k, 143) ∧ e = 143
theorem Takes.snoc {d : Dv} {f : Fr} {n : Int} : ∀ {l : List (Fr × Int)} {k k' : Wk} {a a' : Int}, Takes d l k a k' a' → fetch d a' = .ok (f, n) → (k'.next f a').2 = 0 → Takes d (l ++ [(f, n)]) k a (k'.next f a').1 n
  | [], k, k', a, a', ⟨h1, h2⟩, hf, hn => by subst h1 h2; exact ⟨hf, hn, rfl, rfl⟩
  | (g, m) :: l, k, k', a, a', ⟨h1, h2, h3⟩, hf, hn => ⟨h1, h2, h3.snoc hf hn⟩
theorem Takes.grow {d : Dv} : ∀ {l : List (Fr × Int)} {k k' : Wk} {a a' : Int}, Takes d l k a k' a' → 0 ≤ a → a ≤ (d.b.length : Int) → a + 2 * (l.length : Int) ≤ a' ∧ a' ≤ (d.b.length : Int)
  | [], k, k', a, a', ⟨h1, h2⟩, h0, hl => by subst h2; simp; exact hl
  | (g, m) :: l, k, k', a, a', ⟨h1, h2, h3⟩, h0, hl => by
    obtain ⟨run, _, h4, h5, h6, _⟩ := fetch_ok h1
    have := h3.grow (by omega) h6
    simp only [List.length_cons]
    omega
theorem Takes.ok {d : Dv} : ∀ {l : List (Fr × Int)} {k k' : Wk} {a a' : Int}, Takes d l k a k' a' → k.ok → k'.ok
  | [], k, k', a, a', ⟨h1, _⟩, h => by subst h1; exact h
  | (g, m) :: l, k, k', a, a', ⟨h1, h2, h3⟩, h => h3.ok (h.next g a)
end Go.Proofs.YtihodcnnappkbaaGreatDoor
namespace Go.Proofs.YtihodcnnappkbaaGreatDoor
open Go.RowKit Go.BigFrame
set_option linter.unusedVariables false
set_option linter.unusedSimpArgs false
attribute [local go_sem] run_storeF
structure WhRel (w : World) (T : Nat → Prop) (gd gw : Nat) (d : Dv) (fs : List (Fr × Int)) (k : Wk) (a : Int) (d' : Dv) (wr : World) : Prop where
  takes : Takes d fs Wk.fresh 0 k a
  walk : WkV wr (fun j => w.heap.size ≤ j) gw k
  file : DV wr T gd d'
  same : d'.b = d.b ∧ d'.down = false ∧ d'.Ok
  counts : d'.counted ≤ d.counted + fs.length * 2202
  touch : Touch T w wr
def WholePost (w : World) (S : Nat → Prop) (gd : Nat) (d : Dv) (e : Ending) (w' : World) : Prop :=
  ∃ gw fs k a er d', e = .returned (.tuple #[.pointer (some ⟨gw, 0, none⟩), .int .i64 a, .int .i64 er]) ∧ Takes d fs Wk.fresh 0 k a ∧ Stops d k a er ∧ WkV w' (fun j => w.heap.size ≤ j) gw k ∧ DV w' S gd d' ∧ (d'.b = d.b ∧ d'.down = false ∧ d'.Ok) ∧ d'.counted ≤ d.counted + (fs.length + 1) * 2202 ∧ Touch S w w'
set_option maxRecDepth 40000 in
set_option maxHeartbeats 8000000 in
theorem whole_low (gd : Nat) (T : Nat → Prop) (d : Dv) (w : World) (hd : DV w T gd d) (hok : d.Ok) (hdn : d.down = false) (hct : d.counted ≤ 1099511627776) (hTT : ∀ w', Touch T w w' → Tabs w' ∧ Table w') (hTl : ∀ j, T j → j < w.heap.size) :
    Calls Tryz.prog 26 #[.pointer (some ⟨gd, 0, none⟩)] w (WholePost w T gd d) := by
  have hup := devUp_calls gd T d w hd
  rw [hdn] at hup
  have hlen := hok.size
  have HUP := Lib.hid hup
  have HD := Lib.hid hd
  have HOK := Lib.hid hok
  have HTT := Lib.hid hTT
  have HTL := Lib.hid hTl
  obtain ⟨N, hN⟩ : ∃ N, N = d.b.length := ⟨_, rfl⟩
  clear hup hd hok hTT hTl
  go_enter Tryz.func26, Tryz.ntmps26
  go_wp2_with fail
  refine HUP.out.mono ?_
  rintro e w0 ⟨rfl, rfl⟩
  clear HUP
  go_wp2_with fail
  refine (scanNew_calls w).mono ?_
  rintro e w1 ⟨gw, rfl, hgw, hwk1, hkp1⟩
  have hrel0 : ∃ fs k a d', Value.int .i64 0 = .int .i64 a ∧ WhRel w T gd gw d fs k a d' w1 := ⟨[], Wk.fresh, 0, d, rfl, ⟨rfl, rfl⟩, hwk1, HD.out.below hkp1.below, ⟨rfl, hdn, HOK.out⟩, by simp, Touch.of_below hkp1.below fun j hj h => absurd hj (by omega)⟩
  have HREL0 := Lib.hid hrel0
  clear hrel0 hwk1 hkp1 HD
  go_wp2_with fail
  go_loopw [6] (fun i wr => ∃ fs k a d', i = .int .i64 a ∧ WhRel w T gd gw d fs k a d' wr) (fun i _ => N - (intOf i).toNat)
  case atStart => exact HREL0.out
  case round =>
    obtain ⟨fs, k, a, d', rfl, hrel⟩ := hrel
    obtain ⟨htk, hwk, hfile, ⟨hsb, hsd, hso⟩, hcn, htc⟩ := hrel
    obtain ⟨hgr1, hgr2⟩ := htk.grow (by omega) (by omega)
    have hko := htk.ok wkFresh_ok
    have hwsz := htc.size
    have hat := scanAt_calls gd T d' a wr hfile hso (by omega) fun w' h => HTT.out w' (htc.then h)
    have hfs := fetch_same (d := d) (d' := d') hsb (by rw [hsd, hdn]) a
    have HAT := Lib.hid hat
    have HTK := Lib.hid htk
    have HWK := Lib.hid hwk.here
    have HKO := Lib.hid hko
    have HTC := Lib.hid htc
    have HSB := Lib.hid hsb
    have HSD := Lib.hid hsd
    have HFS := Lib.hid hfs
    obtain ⟨ff1, ff2, ff3, ff4, ff5⟩ := fetchD_facts d' a
    have HF5 := Lib.hid (ff5 hso)
    have HF1 := Lib.hid (ff1.trans hsb)
    have HF2 := Lib.hid (ff2.trans hsd)
    clear hat htk hwk hfile hsb hsd hso hko htc hfs ff1 ff2 ff3 ff5 HREL0
    go_wp2_with fail
    refine HAT.out.mono ?_
    rintro e w3 ⟨hpost, hd3, ht3⟩
    obtain ⟨P1, m1, P2, m2, P3, m3, rfl, hfr3⟩ := hpost.form
    rw [HFS.out] at hfr3 ⊢
    have hs3 := ht3.size
    obtain ⟨w4, hw4⟩ : ∃ w4, w4 = w3.alloc (.cells (frCells P1 m1 P2 m2 P3 m3 (outF (fetch d a)).1) 36) := ⟨_, rfl⟩
    have hk34 : Keeps w3 w4 := by rw [hw4]; exact (Keeps.refl w3).alloc _
    have hb4 : w4.heap[w3.heap.size]? = some (.cells (frCells P1 m1 P2 m2 P3 m3 (outF (fetch d a)).1) 36 (0, 0)) := by rw [hw4]; exact obj_new _ _
    have hs4 : w3.heap.size + 1 ≤ w4.heap.size := by rw [hw4]; simp
    have ht4 : Touch T w w4 := (HTC.out.then ht3).below hk34.below
    have hd4 := hd3.below hk34.below
    have hwk4 : WkV w4 (fun j => w.heap.size ≤ j ∧ j < wr.heap.size) gw k := (HWK.out.keep ht3 fun j _ h h' => by have := HTL.out j h'; have := h.1; omega).below hk34.below
    have hfr4 := (hfr3.later hk34.below).mono fun j hj h => (⟨hj, fun h2 => by have h3 : wr.heap.size ≤ j := h; have := h2.2; omega⟩ : j < w4.heap.size ∧ ¬ (w.heap.size ≤ j ∧ j < wr.heap.size))
    have HD4 := Lib.hid hd4
    have HT4 := Lib.hid ht4
    have HWK4 := Lib.hid hwk4
    have HFR4 := Lib.hid hfr4
    have HB4 := Lib.hid hb4
    clear hpost hd3 ht3 hfr3 hk34 hb4 ht4 hd4 hwk4 hfr4 HAT HWK HTC
    cases hr : fetch d a with
    | error er =>
      obtain ⟨hne, _⟩ := fetch_err hr
      have q1 : (er == 0) = false := by simpa using hne
      have q2 : (er != 0) = true := by simpa using hne
      have HSTOP : Hid (Stops d k a er) := Lib.hid (.inl hr)
      rw [hr] at hw4
      unfold outF frCells frZero at *
      clear hr hne HFR4 HB4
      simp only [List.length_nil] at hw4 ⊢
      go_wp2
      rw [← hw4]
      refine bodyPost_ret (v := .tuple #[.pointer (some ⟨gw, 0, none⟩), .int .i64 a, .int .i64 er]) (by simp [results, Tryz.results26, go_sem]) rfl ?_
      exact ⟨gw, fs, k, a, er, fetchD d' a, rfl, HTK.out, HSTOP.out, HWK4.out.mono fun j _ h => h.1, HD4.out, ⟨HF1.out, HF2.out, HF5.out⟩, by rw [Nat.add_mul]; omega, HT4.out⟩
    | ok p =>
      obtain ⟨f, n⟩ := p
      rw [hr] at hw4 HFR4 HB4
      obtain ⟨lf, hlf, hfw, hf0, hfn, hf2, hfb, _⟩ := fetch_back hr
      have hnx := scanNext_calls gw (fun j => w.heap.size ≤ j ∧ j < wr.heap.size) k P1 P2 P3 m1 m2 m3 f a w4 HWK4.out HKO.out HFR4.out hfw fun w' h => HTT.out w' (HT4.out.trans h fun j hj h => by have := h.1; omega)
      have HNX := Lib.hid hnx
      have HR := Lib.hid hr
      have hlt : a < n := by omega
      have hnN : n ≤ (N : Int) := by omega
      clear hnx hlf hfw HFR4 hfn hfb hf2
      unfold outF frCells at *
      obtain ⟨⟨x0, x1, x2, x3, x4, x5, x6, x7, x8, x9, x10⟩, _⟩ := cells11 HB4.out
      rw [hw4] at x0 x1 x2 x3 x4 x5 x6 x7 x8 x9 x10
      clear hr HB4
      simp only at hw4 HNX x0 x1 x2 x3 x4 x5 x6 x7 x8 x9 x10 ⊢
      generalize f.cols.length = y1 at *
      generalize f.block.length = y2 at *
      generalize f.ents.length = y3 at *
      rcases next_or k f a with h0 | h1
      · rw [h0] at HNX
        go_wp2_with fail
        rw [← hw4]
        refine HNX.out.mono ?_
        rintro e w5 ⟨rfl, hwk5, ht5⟩
        have hs5 := ht5.size
        have HREL : Hid (∃ fs k a d', Value.int .i64 n = .int .i64 a ∧ WhRel w T gd gw d fs k a d' w5) := Lib.hid ⟨fs ++ [(f, n)], (k.next f a).1, n, fetchD d' a, rfl, HTK.out.snoc HR.out h0, hwk5.mono fun j _ h => by
            rcases h with h | h
            · exact h.1
            · show w.heap.size ≤ j
              omega, HD4.out.keep ht5 fun j _ h h' => by have := HTL.out j h; have := h'.1; omega, ⟨HF1.out, HF2.out, HF5.out⟩, by rw [List.length_append, Nat.add_mul]; simp only [List.length_cons, List.length_nil]; omega, HT4.out.trans ht5 fun j hj h => by have := h.1; omega⟩
        clear hwk5 ht5 HNX HWK4 HD4 HT4 HTK
        go_wp2
        first
          | exact ⟨HREL.out, by simp [intOf]; omega⟩
          | (go_roundw
             case rel => exact HREL.out
             case measure => simp [intOf]; omega)
      · rw [h1] at HNX
        have HSTOP : Hid (Stops d k a 143) := Lib.hid (.inr ⟨f, n, HR.out, h1, rfl⟩)
        clear h1
        go_wp2_with fail
        rw [← hw4]
        refine HNX.out.mono ?_
        rintro e w5 ⟨rfl, hwk5, ht5⟩
        have hs5 := ht5.size
        have HPOST : Hid (WholePost w T gd d (.returned (.tuple #[.pointer (some ⟨gw, 0, none⟩), .int .i64 a, .int .i64 143])) w5) := Lib.hid ⟨gw, fs, k, a, 143, fetchD d' a, rfl, HTK.out, HSTOP.out, hwk5.mono fun j _ h => by
            rcases h with h | h
            · exact h.1
            · show w.heap.size ≤ j
              omega, HD4.out.keep ht5 fun j _ h h' => by have := HTL.out j h; have := h'.1; omega, ⟨HF1.out, HF2.out, HF5.out⟩, by rw [Nat.add_mul]; omega, HT4.out.trans ht5 fun j hj h => by have := h.1; omega⟩
        clear hwk5 ht5 HNX HWK4 HD4 HT4 HTK HSTOP
        go_wp2
        refine bodyPost_ret (v := .tuple #[.pointer (some ⟨gw, 0, none⟩), .int .i64 a, .int .i64 143]) (by simp [results, Tryz.results26, go_sem]) rfl ?_
        exact HPOST.out
theorem whole_calls (gd : Nat) (S : Nat → Prop) (d : Dv) (w : World) (hd : DV w S gd d) (hok : d.Ok) (hdn : d.down = false) (hct : d.counted ≤ 1099511627776) (hTT : ∀ w', Touch S w w' → Tabs w' ∧ Table w') :
    Calls Tryz.prog 26 #[.pointer (some ⟨gd, 0, none⟩)] w (WholePost w S gd d) :=
  (whole_low gd (fun j => S j ∧ j < w.heap.size) d w hd.here hok hdn hct (fun w' h => hTT w' (h.mono fun _ _ h => h.1)) fun j h => h.2).mono fun e w' ⟨gw, fs, k, a, er, d', h1, h2, h3, h4, h5, h6, h7, h8⟩ =>
    ⟨gw, fs, k, a, er, d', h1, h2, h3, h4, h5.mono fun j _ h => h.1, h6, h7, h8.mono fun j _ h => h.1⟩
end Go.Proofs.YtihodcnnappkbaaGreatDoor
namespace Go.Proofs.YtihodcnnappkbaaGreatDoor
open Go.RowKit Go.BigFrame
set_option linter.unusedVariables false
set_option linter.unusedSimpArgs false
attribute [local go_sem] run_storeF
set_option maxRecDepth 40000 in
set_option maxHeartbeats 8000000 in
theorem joinsL_calls (A0 : Option Addr) (c0 : Nat) (l0 : List UInt8) (w : World) (hr0 : Reads w A0 l0) (hl0 : l0.length ≤ 9223372036854775807) (hlc0 : l0.length ≤ c0) (hcm0 : c0 ≤ 9223372036854775807) (htb : Tabs w) (ht : Table w) :
    Calls Tryz.prog 7 #[.slice A0 l0.length c0] w fun e w' => e = .returned (.bool true) ∧ Keeps w w' := by
  have hlv := scanLive_calls w htb ht
  have HLV := Lib.hid hlv
  clear hlv
  by_cases hbig : 100000 < l0.length
  · clear htb ht hr0
    generalize l0.length = n0 at *
    have hbig2 : (100000 : Int) < (n0 : Int) := by omega
    go_enter Tryz.func7, Tryz.ntmps7
    go_wp2_with fail
    refine HLV.out.mono ?_
    rintro e w1 ⟨rfl, hk1⟩
    go_wp2
    go_ret
    exact ⟨rfl, hk1⟩
  have hsm : l0.length ≤ 100000 := by omega
  have hld : ∀ w', Keeps w w' → Calls Tryz.prog 16 #[.slice A0 l0.length c0] w' fun e w'' => ∃ gd gr S1 S2, e = .returned (.tuple #[.pointer (some ⟨gd, 0, none⟩), .pointer (some ⟨gr, 0, none⟩)]) ∧ Pair w'' S1 S2 gd gr (laidD l0) ∧ (∀ k, S1 k → ¬ S2 k) ∧ (∀ k, S1 k ∨ S2 k → w'.heap.size ≤ k ∧ k < w''.heap.size) ∧ Keeps w' w'' :=
    fun w' hk => laid_calls A0 c0 l0 w' (by omega) (hr0.below hk.below)
  have HLD := Lib.hid hld
  have HR0 := Lib.hid hr0
  have HTB := Lib.hid htb
  have HTT := Lib.hid ht
  have hok0 : (laidD l0).Ok := laidD_ok (by omega)
  have HOK0 := Lib.hid hok0
  have hdl : (laidD l0).b.length = l0.length := rfl
  have HDL := Lib.hid hdl
  clear hr0 hld htb ht hbig hok0 hdl
  generalize hn0 : l0.length = n0 at *
  have HN0 := Lib.hid hn0
  clear hn0
  have hsm2 : ¬ (100000 : Int) < (n0 : Int) := by omega
  go_enter Tryz.func7, Tryz.ntmps7
  go_wp2_with fail
  refine HLV.out.mono ?_
  rintro e w1 ⟨rfl, hk1⟩
  go_wp2_with fail
  refine (HLD.out w1 hk1).mono ?_
  rintro e w2 ⟨gd, gr, S1, S2, rfl, hp2, hdis, hS, hk2⟩
  have hk12 := hk1.trans hk2
  have hs12 := hk1.size
  have hS1 : ∀ k, S1 k → w.heap.size ≤ k := fun k hk => by have := (hS k (.inl hk)).1; omega
  have hlow : ∀ X Y : World, Keeps w X → Touch S1 X Y → Keeps w Y := fun X Y h1 h2 => Touch.nothing (F := S1) ((Touch.of_below h1.below fun j hj h => absurd hj (by omega)).then h2) fun j hj h => by have := hS1 j h; omega
  have HLOW := Lib.hid hlow
  have HK2 := Lib.hid hk12
  have hwh := whole_calls gd S1 (laidD l0) w2 hp2.1 HOK0.out rfl (by show 0 ≤ _; omega) fun w' h => ⟨HTB.out.below (HLOW.out w2 w' HK2.out h).below, HTT.out.later (HLOW.out w2 w' HK2.out h).below⟩
  have HWH := Lib.hid hwh
  clear hp2 hdis hS hk1 hk2 hk12 hs12 hS1 hlow hwh HLV HLD
  go_wp2_with fail
  refine HWH.out.mono ?_
  rintro e w3 ⟨gw, fs, k, a, er, d3, rfl, htk, hst, _, hd3, ⟨hb3, hdn3, hok3⟩, hct3, ht3⟩
  obtain ⟨hgr1, hgr2⟩ := htk.grow (by omega) (by omega)
  rw [HDL.out] at hgr2
  obtain ⟨p, rfl⟩ := Int.eq_ofNat_of_zero_le (show 0 ≤ a by omega)
  have hend : er = 140 → p = n0 := fun he => by
    rcases hst with h | ⟨f, n, _, _, h⟩
    · have := (fetch_err h).2 he
      rw [HDL.out] at this
      omega
    · omega
  have hk3 := HLOW.out w2 w3 HK2.out ht3
  obtain ⟨m, hm⟩ : ∃ m, m = fs.length := ⟨_, rfl⟩
  rw [← hm] at hct3 hgr1
  have hct0 : (laidD l0).counted = 0 := rfl
  rw [hct0] at hct3
  have hrel0 : ∃ (j q : Nat) (rest : List (Fr × Int)) (kk : Wk) (d' : Dv), Value.int .i64 0 = .int .i64 (j : Int) ∧ Value.int .i64 0 = .int .i64 (q : Int) ∧ Takes (laidD l0) rest kk (q : Int) k (p : Int) ∧ q ≤ n0 ∧ j + rest.length = m ∧ DV w3 S1 gd d' ∧ (d'.b = (laidD l0).b ∧ d'.down = false ∧ d'.Ok) ∧ d'.counted ≤ (m + 1 + j) * 2202 ∧ Keeps w w3 :=
    ⟨0, 0, fs, Wk.fresh, d3, rfl, rfl, htk, by omega, by omega, hd3, ⟨hb3, hdn3, hok3⟩, by omega, hk3⟩
  have HREL0 := Lib.hid hrel0
  have hpn : p ≤ n0 := by omega
  have hpn2 : ¬ (n0 : Int) < (p : Int) := by omega
  have hpnN : ¬ n0 < p := by omega
  have hp0 : ¬ (p : Int) < 0 := by omega
  have hm2 : m ≤ 50000 := by omega
  clear htk hst hd3 hb3 hdn3 hok3 hct3 ht3 hgr1 hgr2 hk3 hct0 hm hrel0 HWH
  have hgo : ∀ X : Bool, X = ((decide (er = 140) != decide (p = n0)) && decide (er = 140)) → X = false := fun X hX => by
    subst hX
    by_cases he : er = 140
    · simp [he, hend he]
    · simp [he]
  have hcase : (er = 140 ∧ p = n0) ∨ (¬ er = 140 ∧ p = n0) ∨ (¬ er = 140 ∧ ¬ p = n0) := by
    by_cases he : er = 140
    · exact .inl ⟨he, hend he⟩
    · by_cases hp : p = n0
      · exact .inr (.inl ⟨he, hp⟩)
      · exact .inr (.inr ⟨he, hp⟩)
  rcases hcase with ⟨he, hp⟩ | ⟨he, hp⟩ | ⟨he, hp⟩
  all_goals
    first
      | (subst he
         have hpe2 : ((p : Int) == (n0 : Int)) = true := by rw [beq_iff_eq]; omega
         have hpe5 : (p == n0) = true := by rw [beq_iff_eq]; omega
         have hpe6 : decide (p = n0) = true := by rw [decide_eq_true_eq]; omega
         clear hp)
      | (have hpe2 : (er == 140) = false := by simpa using he
         have hpe3 : ((p : Int) == (n0 : Int)) = true := by rw [beq_iff_eq]; omega
         have hpe5 : (p == n0) = true := by rw [beq_iff_eq]; omega
         have hpe6 : decide (p = n0) = true := by rw [decide_eq_true_eq]; omega
         clear hp)
      | (have hpe2 : (er == 140) = false := by simpa using he
         have hpe3 : ((p : Int) == (n0 : Int)) = false := by rw [beq_eq_false_iff_ne]; omega)
    clear hend hgo
    go_wp2_with fail
    go_loopw [9, 10] (fun fr at' wr => ∃ (j q : Nat) (rest : List (Fr × Int)) (kk : Wk) (d' : Dv), fr = .int .i64 (j : Int) ∧ at' = .int .i64 (q : Int) ∧ Takes (laidD l0) rest kk (q : Int) k (p : Int) ∧ q ≤ n0 ∧ j + rest.length = m ∧ DV wr S1 gd d' ∧ (d'.b = (laidD l0).b ∧ d'.down = false ∧ d'.Ok) ∧ d'.counted ≤ (m + 1 + j) * 2202 ∧ Keeps w wr) (fun _ at' _ => n0 - (intOf at').toNat)
    case atStart => exact HREL0.out
    case round =>
      obtain ⟨j, q, rest, kk, d', rfl, rfl, htk, hq, hjr, hd', ⟨hsb, hsd, hso⟩, hcn, hkr⟩ := hrel
      cases rest with
      | nil =>
        obtain ⟨_, h2⟩ := htk
        have hqp : q = p := by omega
        subst hqp
        simp only [List.length_nil, Nat.add_zero] at hjr
        subst hjr
        have hcnt := devCounted_calls gd S1 d' wr hd'
        have HCNT := Lib.hid hcnt
        have HKR := Lib.hid hkr
        have hw1 : IntKind.i64.wrap (2 * (j : Int)) = 2 * (j : Int) := IntWalk.i64_in _ (by omega)
        have hw2 : IntKind.i64.wrap (2 * (j : Int) + 1) = 2 * (j : Int) + 1 := IntWalk.i64_in _ (by omega)
        have hw3 : IntKind.i64.wrap ((2 * (j : Int) + 1) * 2202) = (2 * (j : Int) + 1) * 2202 := IntWalk.i64_in _ (by omega)
        have hle : (d'.counted : Int) ≤ (2 * (j : Int) + 1) * 2202 := by omega
        generalize d'.counted = dc at *
        clear hcnt hd' hsb hsd hso hkr h2 HREL0
        go_wp2_with fail
        refine HCNT.out.mono ?_
        rintro e w4 ⟨rfl, rfl⟩
        go_wp2
        go_ret
        exact ⟨rfl, HKR.out⟩
      | cons x rest =>
        obtain ⟨f, n⟩ := x
        obtain ⟨hf, hnx, htr⟩ := htk
        obtain ⟨lf, hlf, hfw, hf0, hfn, hf2, hfb, hft⟩ := fetch_back hf
        rw [HDL.out] at hfb
        obtain ⟨r, hr⟩ : ∃ r : Nat, r = q + lf.length := ⟨_, rfl⟩
        have hnr : n = (r : Int) := by omega
        subst hnr
        have hgr := (htr.grow (by omega) (by rw [HDL.out]; omega)).1
        have hrp : r ≤ p := by omega
        have hqr : q < r := by omega
        have hqp : (q : Int) < (p : Int) := by omega
        have hqr3 : (q : Int) ≤ (r : Int) := by omega
        have hrp2 : ¬ (p : Int) < (r : Int) := by omega
        have hrn : r ≤ n0 := by omega
        have hrc : r ≤ c0 := by omega
        have hfs := fetch_same (d := laidD l0) (d' := d') hsb (by rw [hsd]; rfl) (q : Int)
        have hat := scanAt_calls gd S1 d' (q : Int) wr hd' hso (by omega) fun w' h => ⟨HTB.out.below (HLOW.out wr w' hkr h).below, HTT.out.later (HLOW.out wr w' hkr h).below⟩
        have HAT := Lib.hid hat
        obtain ⟨ff1, ff2, ff3, ff4, ff5⟩ := fetchD_facts d' (q : Int)
        have HF := Lib.hid ((⟨ff1.trans hsb, ff2.trans hsd, ff5 hso⟩ : (fetchD d' (q : Int)).b = (laidD l0).b ∧ (fetchD d' (q : Int)).down = false ∧ (fetchD d' (q : Int)).Ok))
        have HKR := Lib.hid hkr
        have HFS := Lib.hid (hfs.trans hf)
        have HTR := Lib.hid htr
        have HLF := Lib.hid hlf
        have HFT := Lib.hid hft
        have HRR := Lib.hid hr
        have HFW := Lib.hid hfw
        have hjr2 : j + 1 + rest.length = m := by rw [← hjr, List.length_cons]; omega
        have HJR := Lib.hid hjr2
        have hjb0 : j ≤ m := by omega
        clear hf hnx htr hlf hfn hf0 hfb hft hfw hr hgr hd' hsb hsd hso hkr hfs hat ff1 ff2 ff3 ff5 hjr hjr2 HREL0
        go_wp2_with fail
        refine HAT.out.mono ?_
        rintro e w4 ⟨hpost, hd4, ht4⟩
        obtain ⟨P1, m1, P2, m2, P3, m3, rfl, hfr4⟩ := hpost.form
        rw [HFS.out] at hfr4 ⊢
        have hk4 := HLOW.out wr w4 HKR.out ht4
        obtain ⟨w5, hw5⟩ : ∃ w5, w5 = w4.alloc (.cells (frCells P1 m1 P2 m2 P3 m3 f) 36) := ⟨_, rfl⟩
        have hk45 : Keeps w4 w5 := by rw [hw5]; exact (Keeps.refl w4).alloc _
        have hb5 : w5.heap[w4.heap.size]? = some (.cells (frCells P1 m1 P2 m2 P3 m3 f) 36 (0, 0)) := by rw [hw5]; exact obj_new _ _
        have hk5 := hk4.trans hk45
        have hfr5 := (hfr4.later hk45.below).mono fun j hj _ => hj
        have hen := encode_calls P1 P2 P3 m1 m2 m3 f w5 hfr5 HFW.out (HTB.out.below hk5.below) (HTT.out.later hk5.below)
        rw [HLF.out] at hen
        have HEN := Lib.hid hen
        have HK5 := Lib.hid hk5
        have HD5 := Lib.hid (hd4.below hk45.below)
        clear hpost hd4 ht4 hfr4 hk4 hk45 hk5 hfr5 hen HAT HKR HFW HLF
        unfold outF frCells at *
        simp only at hw5 ⊢
        obtain ⟨⟨x0, x1, x2, x3, x4, x5, x6, x7, x8, x9, x10⟩, _⟩ := cells11 hb5
        rw [hw5] at x0 x1 x2 x3 x4 x5 x6 x7 x8 x9 x10
        clear hb5
        generalize f.cols.length = y1 at *
        generalize f.block.length = y2 at *
        generalize f.ents.length = y3 at *
        go_wp2_with fail
        rw [← hw5]
        clear hw5 x0 x1 x2 x3 x4 x5 x6 x7 x8 x9 x10
        refine HEN.out.mono ?_
        rintro e w6 ⟨v6, rfl, ho6, hk6⟩
        obtain ⟨A6, c6, rfl, hlc6, hr6, hcm6, _⟩ := ho6.form
        have hkw6 := HK5.out.trans hk6
        have hcv2 := (hr6.drewN 1).conv (P := Tryz.prog) 31 9 5 Tryz.underlying31 Tryz.underlying5 Tryz.underlying9 c6
        obtain ⟨Z, hif⟩ : ∃ Z, Option.map (fun x => x.add q) A0 = Z := ⟨_, rfl⟩
        have hz : Reads w6 Z lf := by
          have h1 : Reads w6 Z ((l0.drop q).take lf.length) := Reads.take ((HR0.out.below hkw6.below).drop_any q Z fun hlt ad e => by rw [← hif, e]; rfl) lf.length
          have h2 := HFT.out
          rw [show (laidD l0).b = l0 from rfl, Int.toNat_natCast] at h2
          rwa [h2] at h1
        have hcv1 := (hz.drewN 1).conv (P := Tryz.prog) 31 9 5 Tryz.underlying31 Tryz.underlying5 Tryz.underlying9 (c0 - q)
        obtain ⟨LN, hLN⟩ : ∃ LN, LN = lf.length := ⟨_, rfl⟩
        have hrq : r - q = LN := by rw [hLN]; have := HRR.out; omega
        rw [← hLN] at hcv1 hcv2 hlc6 ⊢
        have hwr : IntKind.i64.wrap ((q : Int) + (LN : Int)) = (r : Int) := by rw [IntWalk.i64_in _ (by omega)]; omega
        obtain ⟨T, hT⟩ : ∃ T, T = str lf := ⟨_, rfl⟩
        rw [← hT] at hcv1 hcv2
        have hcd1 : (convert 31 9 (.slice Z LN (c0 - q))).run Tryz.prog w6.drew = .ok (.string T) w6.drew := hcv1
        have hcd2 : (convert 31 9 (.slice A6 LN c6)).run Tryz.prog w6.drew = .ok (.string T) w6.drew := hcv2
        have hrq2 : IntKind.i64.wrap ((r : Int) - (q : Int)) = (LN : Int) := by rw [IntWalk.i64_in _ (by omega)]; omega
        have HD6 := Lib.hid (HD5.out.below hk6.below)
        have HK6 := Lib.hid hkw6
        have HREL : Hid (∀ N, ∃ (j' q' : Nat) (rest' : List (Fr × Int)) (kk' : Wk) (d'' : Dv), Value.int .i64 ((j : Int) + 1) = .int .i64 (j' : Int) ∧ Value.int .i64 (r : Int) = .int .i64 (q' : Int) ∧ Takes (laidD l0) rest' kk' (q' : Int) k (p : Int) ∧ q' ≤ n0 ∧ j' + rest'.length = m ∧ DV (w6.drewN N) S1 gd d'' ∧ (d''.b = (laidD l0).b ∧ d''.down = false ∧ d''.Ok) ∧ d''.counted ≤ (m + 1 + j') * 2202 ∧ Keeps w (w6.drewN N)) :=
          Lib.hid fun N => ⟨j + 1, r, rest, _, fetchD d' (q : Int), by go_num, rfl, HTR.out, hrn, HJR.out, HD6.out.below (Keeps.drewN w6 N).below, HF.out, by have := HJR.out; omega, HK6.out.trans (Keeps.drewN w6 N)⟩
        clear ho6 hr6 hk6 hkw6 hz hT hLN HEN HK5 HD5 HTR HFT HRR HJR HF HFS
        have i0 : (0 : Int) ≤ (q : Int) := by omega
        have hrpN : ¬ p < r := by omega
        have hjb : (j : Int) < 60000 := by omega
        have hrl : (q : Int) + (LN : Int) = (r : Int) := by omega
        have hrl2 : ((r : Int) != (q : Int) + (LN : Int)) = false := by rw [hrl]; simp
        have i1 : (r : Int) ≤ (c0 : Int) := by omega
        have e1 : IntKind.i64.wrap (q : Int) = (q : Int) := IntWalk.i64_in _ (by omega)
        have e2 : IntKind.i64.wrap (r : Int) = (r : Int) := IntWalk.i64_in _ (by omega)
        go_wp2_with fail
        go_big_region
        all_goals
          go_wp2
          exact ⟨HREL.out 1, by simp [intOf]; omega⟩
end Go.Proofs.YtihodcnnappkbaaGreatDoor
