/-
  Stuffing as plain functions on lists of bytes: the groups, what is stuffed, what is taken back. No condition.
-/
namespace Go.Proofs.Ytnfefjlplipeiab

/-- the bytes ahead of the first zero -/
def nz : List UInt8 → List UInt8
  | [] => []
  | b :: l => if b = 0 then [] else b :: nz l
def grp (l : List UInt8) : List UInt8 := nz (l.take 254)
theorem nz_yes {b : UInt8} (l : List UInt8) (h : b = 0) : nz (b :: l) = [] := by simp [nz, h]
theorem nz_on {b : UInt8} (l : List UInt8) (h : b ≠ 0) : nz (b :: l) = b :: nz l := by simp [nz, h]

theorem nz_append (l : List UInt8) : l = nz l ++ l.drop (nz l).length := by
  induction l with
  | nil => rfl
  | cons b l ih =>
    by_cases h : b = 0
    · rw [nz_yes l h]; rfl
    · rw [nz_on l h]; simp only [List.cons_append, List.length_cons, List.drop_succ_cons]; rw [← ih]
theorem nz_no (l : List UInt8) : (0 : UInt8) ∉ nz l := by
  induction l with
  | nil => simp [nz]
  | cons b l ih =>
    by_cases h : b = 0
    · rw [nz_yes l h]; simp
    · rw [nz_on l h]
      simp only [List.mem_cons, not_or]
      exact ⟨fun e => h e.symm, ih⟩
theorem nz_stop (l : List UInt8) (h : (nz l).length < l.length) : l.getD (nz l).length 1 = 0 := by
  induction l with
  | nil => simp [nz] at h
  | cons b l ih =>
    by_cases hb : b = 0
    · rw [nz_yes l hb]
      simpa using hb
    · rw [nz_on l hb] at h ⊢
      simp only [List.length_cons, List.getD_cons_succ] at h ⊢
      exact ih (by omega)
theorem nz_le (l : List UInt8) : (nz l).length ≤ l.length := by
  have := congrArg List.length (nz_append l)
  rw [List.length_append] at this
  omega
theorem nz_all (l : List UInt8) (h : (0 : UInt8) ∉ l) : nz l = l := by
  induction l with
  | nil => rfl
  | cons b l ih =>
    simp only [List.mem_cons, not_or] at h
    rw [nz_on l (fun e => h.1 e.symm), ih h.2]
theorem nz_zero (g r : List UInt8) (h : (0 : UInt8) ∉ g) : nz (g ++ 0 :: r) = g := by
  induction g with
  | nil => simp [nz]
  | cons b g ih =>
    simp only [List.mem_cons, not_or] at h
    rw [List.cons_append, nz_on _ (fun e => h.1 e.symm), ih h.2]

theorem grp_le (l : List UInt8) : (grp l).length ≤ 254 ∧ (grp l).length ≤ l.length := by
  have := nz_le (l.take 254)
  rw [List.length_take] at this
  unfold grp
  omega
theorem grp_no (l : List UInt8) : (0 : UInt8) ∉ grp l := nz_no _
theorem grp_append (l : List UInt8) : l = grp l ++ l.drop (grp l).length := by
  have h := nz_append (l.take 254)
  have h2 := grp_le l
  have e : l.take (grp l).length = grp l := by
    have := congrArg (List.take (grp l).length) h
    rw [List.take_take, Nat.min_eq_left h2.1] at this
    rw [this]
    unfold grp
    rw [List.take_left]
  rw [← e, List.length_take, Nat.min_eq_left h2.2, List.take_append_drop]
theorem grp_stop (l : List UInt8) (h : (grp l).length < 254) (h2 : (grp l).length < l.length) : l[(grp l).length]'h2 = 0 := by
  have hs := nz_stop (l.take 254) (by rw [List.length_take]; unfold grp at h h2; omega)
  rw [show (nz (l.take 254)).length = (grp l).length from rfl, List.getD_eq_getElem?_getD, List.getElem?_take, if_pos h, List.getElem?_eq_getElem h2] at hs
  exact hs

def groupsOf (l : List UInt8) : List (List UInt8) :=
  grp l :: (if h : l.length ≤ (grp l).length then [] else if (grp l).length < 254 then groupsOf (l.drop ((grp l).length + 1)) else groupsOf (l.drop 254))
termination_by l.length
decreasing_by all_goals (simp only [List.length_drop]; omega)

theorem groups_last (l : List UInt8) (h : l.length ≤ (grp l).length) : groupsOf l = [grp l] := by rw [groupsOf, dif_pos h]
theorem groups_less (l : List UInt8) (h : (grp l).length < l.length) (h2 : (grp l).length < 254) : groupsOf l = grp l :: groupsOf (l.drop ((grp l).length + 1)) := by
  rw [groupsOf, dif_neg (by omega), if_pos h2]
theorem groups_full (l : List UInt8) (h : (grp l).length < l.length) (h2 : (grp l).length = 254) : groupsOf l = grp l :: groupsOf (l.drop 254) := by
  rw [groupsOf, dif_neg (by omega), if_neg (by omega)]

def one (g : List UInt8) : List UInt8 := UInt8.ofNat (g.length + 1) :: g
def stuffed (gs : List (List UInt8)) : List UInt8 := gs.flatMap one
def stuffOf (l : List UInt8) : List UInt8 := stuffed (groupsOf l)
theorem stuffed_append (a b : List (List UInt8)) : stuffed (a ++ b) = stuffed a ++ stuffed b := by simp [stuffed]
theorem stuffed_snoc (a : List (List UInt8)) (g : List UInt8) : stuffed (a ++ [g]) = (stuffed a ++ [UInt8.ofNat (g.length + 1)]) ++ g := by simp [stuffed, one]

theorem stuff_last (l : List UInt8) (h : l.length ≤ (grp l).length) : grp l = l ∧ stuffOf l = UInt8.ofNat (l.length + 1) :: l := by
  have e := grp_append l
  rw [List.drop_eq_nil_of_le h, List.append_nil] at e
  refine ⟨e.symm, ?_⟩
  unfold stuffOf
  rw [groups_last l h, ← e]
  simp [stuffed, one]
theorem stuff_less (l : List UInt8) (h : (grp l).length < l.length) (h2 : (grp l).length < 254) :
    l = grp l ++ 0 :: l.drop ((grp l).length + 1) ∧ stuffOf l = UInt8.ofNat ((grp l).length + 1) :: (grp l ++ stuffOf (l.drop ((grp l).length + 1))) := by
  refine ⟨?_, ?_⟩
  · have e := grp_append l
    rw [List.drop_eq_getElem_cons h, grp_stop l h2 h] at e
    exact e
  · unfold stuffOf
    rw [groups_less l h h2]
    simp [stuffed, one]
theorem stuff_full (l : List UInt8) (h : (grp l).length < l.length) (h2 : (grp l).length = 254) :
    l = grp l ++ l.drop 254 ∧ l.drop 254 ≠ [] ∧ stuffOf l = UInt8.ofNat 255 :: (grp l ++ stuffOf (l.drop 254)) := by
  refine ⟨?_, ?_, ?_⟩
  · have e := grp_append l
    rw [h2] at e
    exact e
  · intro e
    have := congrArg List.length e
    simp at this
    omega
  · unfold stuffOf
    rw [groups_full l h h2]
    simp [stuffed, one, h2]

theorem stuff_ne (l : List UInt8) : stuffOf l ≠ [] := by
  unfold stuffOf
  rw [groupsOf]
  simp [stuffed, one]

/-- by the groups -/
theorem by_groups {p : List UInt8 → Prop} (h1 : ∀ l, l.length ≤ (grp l).length → p l) (h2 : ∀ l, (grp l).length < l.length → (grp l).length < 254 → p (l.drop ((grp l).length + 1)) → p l)
    (h3 : ∀ l, (grp l).length < l.length → (grp l).length = 254 → p (l.drop 254) → p l) : ∀ l, p l := by
  have main : ∀ n (l : List UInt8), l.length ≤ n → p l := by
    intro n
    induction n with
    | zero => intro l hl; exact h1 l (by omega)
    | succ n ih =>
      intro l hl
      by_cases a : l.length ≤ (grp l).length
      · exact h1 l a
      · by_cases b : (grp l).length < 254
        · exact h2 l (by omega) b (ih _ (by rw [List.length_drop]; omega))
        · have := (grp_le l).1
          exact h3 l (by omega) (by omega) (ih _ (by rw [List.length_drop]; omega))
  exact fun l => main l.length l (Nat.le_refl _)

theorem ofNat_toNat (n : Nat) (h : n ≤ 254) : (UInt8.ofNat (n + 1)).toNat = n + 1 := by rw [UInt8.toNat_ofNat']; omega

theorem stuff_no (l : List UInt8) : (0 : UInt8) ∉ stuffOf l := by
  have hne : ∀ n, n ≤ 254 → (0 : UInt8) ≠ UInt8.ofNat (n + 1) := fun n hn e => by
    have := congrArg UInt8.toNat e
    rw [ofNat_toNat n hn] at this
    simp at this
  refine by_groups (p := fun l => (0 : UInt8) ∉ stuffOf l) (fun l h => ?_) (fun l h h2 ih => ?_) (fun l h h2 ih => ?_) l
  · obtain ⟨e, e2⟩ := stuff_last l h
    have := grp_no l
    have hl := (grp_le l).1
    rw [e] at this hl
    rw [e2, List.mem_cons, not_or]
    exact ⟨hne _ hl, this⟩
  · obtain ⟨_, e2⟩ := stuff_less l h h2
    rw [e2, List.mem_cons, List.mem_append, not_or, not_or]
    exact ⟨hne _ (by omega), grp_no l, ih⟩
  · obtain ⟨_, _, e2⟩ := stuff_full l h h2
    rw [e2, List.mem_cons, List.mem_append, not_or, not_or]
    exact ⟨hne 254 (by omega), grp_no l, ih⟩

theorem stuff_length (l : List UInt8) : l.length < (stuffOf l).length ∧ (stuffOf l).length ≤ l.length + 1 + l.length / 254 := by
  refine by_groups (p := fun l => l.length < (stuffOf l).length ∧ (stuffOf l).length ≤ l.length + 1 + l.length / 254) (fun l h => ?_) (fun l h h2 ih => ?_) (fun l h h2 ih => ?_) l
  · obtain ⟨e, e2⟩ := stuff_last l h
    rw [e2, List.length_cons]
    omega
  · obtain ⟨_, e2⟩ := stuff_less l h h2
    rw [e2, List.length_cons, List.length_append]
    rw [List.length_drop] at ih
    omega
  · obtain ⟨_, _, e2⟩ := stuff_full l h h2
    rw [e2, List.length_cons, List.length_append]
    rw [List.length_drop] at ih
    omega

/-! ### taken back -/
def unGo (s b : List UInt8) (full : Bool) : List UInt8 × Int :=
  match s with
  | [] => (b, 0)
  | c :: t =>
    if t.length < c.toNat - 1 then ([], 30)
    else if t.length ≤ c.toNat - 1 then (if full && c.toNat - 1 == 0 then ([], 5) else (b ++ t.take (c.toNat - 1), 0))
    else unGo (t.drop (c.toNat - 1)) (b ++ t.take (c.toNat - 1) ++ (if c.toNat - 1 = 254 then [] else [0])) (c.toNat - 1 == 254)
termination_by s.length
decreasing_by (simp only [List.length_drop, List.length_cons]; omega)

def unstuffOf (s : List UInt8) : List UInt8 × Int := if 0 ∈ s then ([], 40) else if s.length = 0 then ([], 30) else unGo s [] false

theorem unGo_cons (c : UInt8) (t b : List UInt8) (full : Bool) : unGo (c :: t) b full =
    if t.length < c.toNat - 1 then ([], 30)
    else if t.length ≤ c.toNat - 1 then (if full && c.toNat - 1 == 0 then ([], 5) else (b ++ t.take (c.toNat - 1), 0))
    else unGo (t.drop (c.toNat - 1)) (b ++ t.take (c.toNat - 1) ++ (if c.toNat - 1 = 254 then [] else [0])) (c.toNat - 1 == 254) := by rw [unGo]

/-- what was stuffed comes back -/
theorem unGo_stuff (l : List UInt8) : ∀ (b : List UInt8) (full : Bool), (full = true → l ≠ []) → unGo (stuffOf l) b full = (b ++ l, 0) := by
  refine by_groups (p := fun l => ∀ (b : List UInt8) (full : Bool), (full = true → l ≠ []) → unGo (stuffOf l) b full = (b ++ l, 0)) (fun l h b full hf => ?_) (fun l h h2 ih b full hf => ?_) (fun l h h2 ih b full hf => ?_) l
  · obtain ⟨e, e2⟩ := stuff_last l h
    have hl := (grp_le l).1
    rw [e] at hl
    rw [e2, unGo_cons, ofNat_toNat _ hl, Nat.add_sub_cancel, if_neg (by omega), if_pos (Nat.le_refl _), List.take_length]
    rw [if_neg]
    intro hc
    simp only [Bool.and_eq_true, beq_iff_eq] at hc
    exact hf hc.1 (List.eq_nil_of_length_eq_zero hc.2)
  · obtain ⟨e1, e2⟩ := stuff_less l h h2
    have hn := stuff_ne (l.drop ((grp l).length + 1))
    have hp := List.length_pos_iff.2 hn
    rw [e2, unGo_cons, ofNat_toNat _ (by omega), Nat.add_sub_cancel, if_neg (by rw [List.length_append]; omega), if_neg (by rw [List.length_append]; omega), List.drop_left, List.take_left, if_neg (by omega),
      show (((grp l).length == 254) = false) by rw [beq_eq_false_iff_ne]; omega, ih _ false (fun h => by cases h)]
    rw [List.append_assoc, List.append_assoc]
    conv => rhs; rw [e1]
    simp
  · obtain ⟨e1, e0, e2⟩ := stuff_full l h h2
    have hn := stuff_ne (l.drop 254)
    have hp := List.length_pos_iff.2 hn
    rw [e2, unGo_cons, ofNat_toNat 254 (by omega), show 254 + 1 - 1 = (grp l).length by omega, if_neg (by rw [List.length_append]; omega), if_neg (by rw [List.length_append]; omega), List.drop_left, List.take_left, if_pos h2,
      show (((grp l).length == 254) = true) by rw [beq_iff_eq]; omega, ih _ true (fun _ => e0)]
    rw [List.append_nil, List.append_assoc]
    conv => rhs; rw [e1]
theorem unstuff_stuff (l : List UInt8) : unstuffOf (stuffOf l) = (l, 0) := by
  have hp := List.length_pos_iff.2 (stuff_ne l)
  unfold unstuffOf
  rw [if_neg (stuff_no l), if_neg (by omega), unGo_stuff l [] false (fun h => by cases h)]
  rfl

/-- and back again -/
theorem stuff_unGo : ∀ (n : Nat) (s b : List UInt8) (full : Bool) (d : List UInt8), s.length ≤ n → (0 : UInt8) ∉ s → s ≠ [] → unGo s b full = (d, 0) → ∃ e, d = b ++ e ∧ stuffOf e = s ∧ (full = true → e ≠ []) := by
  intro n
  induction n with
  | zero => intro s b full d hn h0 hne; exact absurd (List.eq_nil_of_length_eq_zero (by omega)) hne
  | succ n ih =>
    intro s b full d hn h0 hne h
    cases s with
    | nil => exact absurd rfl hne
    | cons c t =>
      simp only [List.mem_cons, not_or] at h0
      have hc0 : c.toNat ≠ 0 := fun e => h0.1 (UInt8.toNat_inj.1 (by simpa using e.symm))
      have hc1 : c.toNat < 256 := UInt8.toNat_lt c
      obtain ⟨k, hk⟩ : ∃ k, c.toNat = k + 1 := ⟨c.toNat - 1, by omega⟩
      have hck : UInt8.ofNat (k + 1) = c := by apply UInt8.toNat_inj.1; rw [ofNat_toNat k (by omega), hk]
      rw [unGo_cons, hk, Nat.add_sub_cancel] at h
      by_cases a1 : t.length < k
      · rw [if_pos a1] at h; simp at h
      · rw [if_neg a1] at h
        have hg0 : (0 : UInt8) ∉ t.take k := fun e => h0.2 (List.mem_of_mem_take e)
        have hgl : (t.take k).length = k := by rw [List.length_take]; omega
        have htd : t = t.take k ++ t.drop k := (List.take_append_drop k t).symm
        by_cases a2 : t.length ≤ k
        · rw [if_pos a2] at h
          have htk : t.take k = t := List.take_of_length_le a2
          by_cases a3 : (full && k == 0) = true
          · rw [if_pos a3] at h; simp at h
          · rw [if_neg a3, htk] at h
            have hd : d = b ++ t := (Prod.mk.inj h).1.symm
            have hgt : grp t = t := by
              unfold grp
              rw [List.take_of_length_le (by omega)]
              exact nz_all t h0.2
            refine ⟨t, hd, ?_, fun hf e => ?_⟩
            · rw [(stuff_last t (by rw [hgt]; omega)).2, show t.length = k by omega, hck]
            · subst e
              simp only [List.length_nil] at a1
              simp [hf] at a3
              omega
        · rw [if_neg a2] at h
          have hdn : t.drop k ≠ [] := fun e => by have := congrArg List.length e; simp at this; omega
          have hd0 : (0 : UInt8) ∉ t.drop k := fun e => h0.2 (List.mem_of_mem_drop e)
          obtain ⟨e, h1, h2, h3⟩ := ih (t.drop k) _ _ d (by rw [List.length_drop]; simp only [List.length_cons] at hn; omega) hd0 hdn h
          by_cases a3 : k = 254
          · subst a3
            rw [if_pos rfl, List.append_nil] at h1
            have hen := h3 rfl
            have hgr : grp (t.take 254 ++ e) = t.take 254 := by
              unfold grp
              rw [List.take_append_of_le_length (by omega), List.take_of_length_le (by omega)]
              exact nz_all _ hg0
            have hep := List.length_pos_iff.2 hen
            have hst := stuff_full (t.take 254 ++ e) (by rw [hgr, List.length_append]; omega) (by rw [hgr]; exact hgl)
            refine ⟨t.take 254 ++ e, by rw [h1, List.append_assoc], ?_, fun _ h => by simp at h; exact hen h.2⟩
            have hdr : (t.take 254 ++ e).drop 254 = e := by
              have hh := List.drop_left (l₁ := t.take 254) (l₂ := e)
              rwa [hgl] at hh
            rw [hst.2.2, hgr, hdr, h2, ← htd]
            congr 1
          · rw [if_neg a3] at h1
            have hgr : grp (t.take k ++ 0 :: e) = t.take k := by
              unfold grp
              obtain ⟨m, hm⟩ : ∃ m, 254 = (t.take k).length + (m + 1) := ⟨254 - k - 1, by omega⟩
              rw [hm, List.take_append, List.take_of_length_le (by omega), Nat.add_sub_cancel_left, List.take_succ_cons]
              exact nz_zero _ _ hg0
            have hst := stuff_less (t.take k ++ 0 :: e) (by rw [hgr, List.length_append, List.length_cons]; omega) (by rw [hgr]; omega)
            refine ⟨t.take k ++ 0 :: e, by rw [h1]; simp, ?_, fun _ h => by simp at h⟩
            have hdr : (t.take k ++ 0 :: e).drop ((t.take k).length + 1) = e := by
              rw [List.drop_append, List.drop_eq_nil_of_le (by omega), Nat.add_sub_cancel_left]
              rfl
            rw [hst.2, hgr, hdr, h2, ← htd, hgl, hck]
theorem stuff_unstuff (s d : List UInt8) (h : unstuffOf s = (d, 0)) : stuffOf d = s := by
  unfold unstuffOf at h
  by_cases a : (0 : UInt8) ∈ s
  · rw [if_pos a] at h; simp at h
  · rw [if_neg a] at h
    by_cases b : s.length = 0
    · rw [if_pos b] at h; simp at h
    · rw [if_neg b] at h
      obtain ⟨e, h1, h2, _⟩ := stuff_unGo s.length s [] false d (Nat.le_refl _) a (fun e => b (by rw [e]; rfl)) h
      rw [h1, List.nil_append]
      exact h2

theorem unGo_err : ∀ (n : Nat) (s b : List UInt8) (full : Bool), s.length ≤ n → (unGo s b full).2 ≠ 0 → (unGo s b full).1 = [] := by
  intro n
  induction n with
  | zero =>
    intro s b full hn h
    obtain rfl := List.eq_nil_of_length_eq_zero (show s.length = 0 by omega)
    rw [unGo] at h
    exact absurd rfl h
  | succ n ih =>
    intro s b full hn h
    cases s with
    | nil => rw [unGo] at h; exact absurd rfl h
    | cons c t =>
      rw [unGo_cons] at h ⊢
      split
      · rfl
      · split
        · split
          · rfl
          · rename_i a1 a2 a3
            rw [if_neg a1, if_pos a2, if_neg a3] at h
            exact absurd rfl h
        · rename_i a1 a2
          rw [if_neg a1, if_neg a2] at h
          exact ih _ _ _ (by rw [List.length_drop]; simp only [List.length_cons] at hn; omega) h
theorem unstuff_err (s : List UInt8) (h : (unstuffOf s).2 ≠ 0) : (unstuffOf s).1 = [] := by
  unfold unstuffOf at *
  split
  · rfl
  · split
    · rfl
    · rename_i a b
      rw [if_neg a, if_neg b] at h
      exact unGo_err _ _ _ _ (Nat.le_refl _) h
theorem stuff_inj (a b : List UInt8) (h : stuffOf a = stuffOf b) : a = b := by
  have h1 := unstuff_stuff a
  rw [h, unstuff_stuff b] at h1
  exact (Prod.mk.inj h1).1.symm
end Go.Proofs.Ytnfefjlplipeiab
