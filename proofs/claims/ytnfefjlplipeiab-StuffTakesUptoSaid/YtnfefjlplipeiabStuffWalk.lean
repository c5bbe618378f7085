/-
  The walks of groups, of Stuff and of Len. Condition: the bytes read as a list.
-/
import Derived.Test.YtnfefjlplipeiabStuffBase
namespace Go.Proofs.Ytnfefjlplipeiab
open Go.RowKit Go.BigFrame
set_option linter.unusedVariables false
set_option linter.unusedSimpArgs false

def lenV : Value → Nat
  | .slice _ n _ => n
  | _ => 0

/-- bytes from the n-th on, and one more -/
theorem Reads.far {w : World} {Z : Option Addr} {l : List UInt8} (h : Reads w Z l) (n : Nat) : Reads w (Option.map (fun x => x.add n) Z) (l.drop n) := by
  refine h.drop_any n _ fun hn ad e => ?_
  subst e
  rfl
def far1A (c n : Nat) (Z : Option Addr) : Option Addr := if c - n = 1 then Option.map (fun x => x.add n) Z else Option.map ((fun x => (⟨x.block, x.off + 1, Option.none⟩ : Addr)) ∘ fun x => x.add n) Z
theorem Reads.far1 {w : World} {Z : Option Addr} {l : List UInt8} {c n : Nat} (h : Reads w Z l) (hc : l.length ≤ c) : Reads w (far1A c n Z) (l.drop (n + 1)) := by
  unfold far1A
  refine h.drop_any (n + 1) _ fun hn ad e => ?_
  subst e
  rw [if_neg (by omega), ← addr_add_add, addr_add_pos (ad.add n) 1 (by omega)]
  rfl

/-- what a closure does that is told the groups -/
def Tells (F : Nat) (p : Addr) (w0 : World) (N : Nat) (I : List (List UInt8) → World → Prop) : Prop :=
  ∀ gs g A c w, I gs w → Reads w0 A g → g.length ≤ 254 → (stuffed (gs ++ [g])).length ≤ N → Calls Try.prog F #[.slice A g.length c, .pointer (some p)] w fun e w' => e = .returned (.tuple #[]) ∧ I (gs ++ [g]) w'

theorem groups_head (l : List UInt8) : ∃ r, groupsOf l = grp l :: r := ⟨_, by rw [groupsOf]⟩
theorem told_le {gs : List (List UInt8)} {l b : List UInt8} {N : Nat} (h : gs ++ groupsOf l = groupsOf b) (hN : (stuffOf b).length ≤ N) : (stuffed (gs ++ [grp l])).length ≤ N := by
  obtain ⟨r, hr⟩ := groups_head l
  unfold stuffOf at hN
  rw [← h, hr, show gs ++ grp l :: r = (gs ++ [grp l]) ++ r by simp, stuffed_append, List.length_append] at hN
  omega

def GroupsRel (w0 : World) (I : List (List UInt8) → World → Prop) (b : List UInt8) (s : Value) (wr : World) : Prop :=
  ∃ (gs : List (List UInt8)) (l : List UInt8) (A : Option Addr) (c : Nat), s = .slice A l.length c ∧ l.length ≤ c ∧ Reads w0 A l ∧ I gs wr ∧ gs ++ groupsOf l = groupsOf b ∧ l.length ≤ b.length

set_option maxRecDepth 100000 in
set_option maxHeartbeats 2000000 in
theorem groups_calls (F : Nat) (hcf : ∀ (args : Array Value) (w : World), (callFunc F args).run Try.prog w = .ok (.enter F args) w) (p : Addr) (w0 w : World) (I : List (List UInt8) → World → Prop) (hI : ∀ gs w', I gs w' → Keeps w0 w') (N : Nat) (hT : Tells F p w0 N I)
    (A : Option Addr) (c : Nat) (b : List UInt8) (hl : b.length ≤ 1099511627776) (hN : (stuffOf b).length ≤ N) (hc : b.length ≤ c) (hr : Reads w0 A b) (h0 : I [] w) :
    Calls Try.prog 43 #[.slice A b.length c, .func (.func F) #[] #[.pointer (some p)]] w fun e w' => e = .returned (.tuple #[]) ∧ I (groupsOf b) w' := by
  have HI := Lib.hid hI
  have HT := Lib.hid hT
  have HR := Lib.hid hr
  have H0 := Lib.hid h0
  clear hI hT hr h0
  go_enter Try.func43, Try.ntmps43
  go_wp2
  go_loopw [0] (fun s wr => GroupsRel w0 I b s wr) (fun s _ => lenV s)
  case atStart => exact ⟨[], b, A, c, rfl, hc, HR.out, H0.out, rfl, Nat.le_refl _⟩
  case round =>
    obtain ⟨gs, l, A1, c1, rfl, hlc, hrl, hI1, hgs, hlb⟩ := hrel
    have HRL := Lib.hid hrl
    have HI1 := Lib.hid hI1
    have HGS := Lib.hid hgs
    clear hrl hI1 hgs H0
    have hK := HI.out _ _ HI1.out
    have HTL := Lib.hid (told_le HGS.out hN)
    have hm : (min ((l.length : Nat) : Int) 254).toNat = (l.take 254).length := by rw [List.length_take]; omega
    have HM := Lib.hid hm
    have hrt : Reads wr A1 (l.take 254) := (HRL.out.below hK.below).take 254
    have HRT := Lib.hid hrt
    have hgl := grp_le l
    have hnt := nz_le (l.take 254)
    have hrg : Reads w0 A1 (grp l) := by
      have e : l.take (grp l).length = grp l := by
        have := congrArg (List.take (grp l).length) (grp_append l)
        rwa [List.take_left] at this
      have h2 := HRL.out.take (grp l).length
      rwa [e] at h2
    have HRG := Lib.hid hrg
    have htl : (l.take 254).length ≤ 254 ∧ (l.take 254).length ≤ l.length := by rw [List.length_take]; omega
    have hgt : (grp l).length = (nz (l.take 254)).length := rfl
    clear hm hrt hrg hK
    by_cases hcase : (grp l).length < l.length
    · by_cases hless : (grp l).length < 254
      · have hfound : (nz (l.take 254)).length < (l.take 254).length := by rw [← hgt, List.length_take]; omega
        have hidx : idx (l.take 254) = ((grp l).length : Int) := by unfold idx; rw [if_pos hfound]; rfl
        have HG := Lib.hid (groups_less l hcase hless)
        have HIX := Lib.hid hidx
        have hft : (grp l).length < (l.take 254).length := by rw [hgt]; exact hfound
        clear hidx hgt hfound
        generalize hn : (grp l).length = n at *
        have HN := Lib.hid hn
        clear hn
        go_wp2_with fail
        rw [HM.out]
        refine (at_value (b := (n : Int)) HIX.out (idx_calls A1 c1 _ wr HRT.out)).mono ?_
        rintro e w1 ⟨rfl, rfl⟩
        go_wp2_with fail
        rw [← HN.out]
        refine (HT.out gs (grp l) A1 c1 wr HI1.out HRG.out (by rw [HN.out]; omega) HTL.out).mono ?_
        rintro e w1 ⟨rfl, hI2⟩
        have HI2 := Lib.hid hI2
        clear hI2
        rw [HN.out]
        go_wp2
        refine ⟨⟨gs ++ [grp l], l.drop (n + 1), far1A c1 n A1, c1 - n - 1, ?_, ?_, ?_, HI2.out, ?_, ?_⟩, ?_⟩
        · unfold far1A; rw [List.length_drop, ← Nat.sub_sub]
        · rw [List.length_drop]; omega
        · exact HRL.out.far1 hlc
        · rw [List.append_assoc, ← HGS.out, HG.out]; rfl
        · rw [List.length_drop]; omega
        · simp [lenV]; omega
      · have h254 : (grp l).length = 254 := by omega
        have hnf : ¬ (nz (l.take 254)).length < (l.take 254).length := by rw [← hgt]; omega
        have hidx : idx (l.take 254) = -1 := by unfold idx; rw [if_neg hnf]
        have HG := Lib.hid (groups_full l hcase h254)
        have HIX := Lib.hid hidx
        have HTG := Lib.hid (show (l.take 254).length = (grp l).length by omega)
        clear hidx hgt hnf hnt
        generalize hn : (grp l).length = n at *
        have HN := Lib.hid hn
        have H254 := Lib.hid h254
        clear hn h254
        go_wp2_with fail
        rw [HM.out]
        refine (at_value (b := (-1 : Int)) HIX.out (idx_calls A1 c1 _ wr HRT.out)).mono ?_
        rintro e w1 ⟨rfl, rfl⟩
        rw [HTG.out]
        go_wp2_with fail
        rw [← HN.out]
        refine (HT.out gs (grp l) A1 c1 wr HI1.out HRG.out (by rw [HN.out]; omega) HTL.out).mono ?_
        rintro e w1 ⟨rfl, hI2⟩
        have HI2 := Lib.hid hI2
        clear hI2
        rw [HN.out]
        go_wp2
        refine ⟨⟨gs ++ [grp l], l.drop n, Option.map (fun x => x.add n) A1, c1 - n, ?_, ?_, ?_, HI2.out, ?_, ?_⟩, ?_⟩
        · rw [List.length_drop]
        · rw [List.length_drop]; omega
        · exact HRL.out.far n
        · rw [List.append_assoc, ← HGS.out, HG.out, H254.out]; rfl
        · rw [List.length_drop]; omega
        · simp [lenV]; omega
    · have hlast : l.length ≤ (grp l).length := by omega
      have hnf : ¬ (nz (l.take 254)).length < (l.take 254).length := by rw [← hgt]; omega
      have hidx : idx (l.take 254) = -1 := by unfold idx; rw [if_neg hnf]
      have HG := Lib.hid (groups_last l hlast)
      have HIX := Lib.hid hidx
      have HTG := Lib.hid (show (l.take 254).length = (grp l).length by omega)
      have hz : l.length - (grp l).length = 0 := by omega
      clear hidx hgt hnf hnt
      generalize hn : (grp l).length = n at *
      have HN := Lib.hid hn
      clear hn hcase
      go_wp2_with fail
      rw [HM.out]
      refine (at_value (b := (-1 : Int)) HIX.out (idx_calls A1 c1 _ wr HRT.out)).mono ?_
      rintro e w1 ⟨rfl, rfl⟩
      rw [HTG.out]
      go_wp2_with fail
      rw [← HN.out]
      refine (HT.out gs (grp l) A1 c1 wr HI1.out HRG.out (by rw [HN.out]; omega) HTL.out).mono ?_
      rintro e w1 ⟨rfl, hI2⟩
      have HI2 := Lib.hid (show I (groupsOf b) w1 by rw [← HGS.out, HG.out]; exact hI2)
      clear hI2
      rw [HN.out]
      go_wp2
      all_goals (refine bodyPost_ret (results_none rfl _ _ _) rfl ?_; exact ⟨rfl, HI2.out⟩)

/-! ### the closures -/
def StuffInv (w : World) (g : Nat) (gs : List (List UInt8)) (w' : World) : Prop :=
  ∃ v, w'.heap[g]? = some (.cells #[v] 22 (0, 0)) ∧ OwnB 5 w' w.heap.size v (stuffed gs) ∧ Keeps w w' ∧ w.heap.size ≤ g
theorem one_cell {w : World} {g : Nat} {v : Value} {t : TypeId} (h : w.heap[g]? = some (.cells #[v] t (0, 0))) : w.cell? ⟨g, 0, none⟩ = some v ∧ w.frozen? ⟨g, 0, none⟩ = false :=
  ⟨by rw [obj_cell h]; rfl, obj_frozen h 0⟩

set_option maxHeartbeats 1000000 in
theorem stuff1_calls (w0 : World) (g : Nat) (gs : List (List UInt8)) (x : List UInt8) (A : Option Addr) (c : Nat) (w : World) (hI : StuffInv w0 g gs w) (hr : Reads w0 A x) (hx : x.length ≤ 254) (hs : (stuffed gs).length ≤ 1099511627776) :
    Calls Try.prog 44 #[.slice A x.length c, .pointer (some ⟨g, 0, none⟩)] w fun e w' => e = .returned (.tuple #[]) ∧ StuffInv w0 g (gs ++ [x]) w' := by
  obtain ⟨v, hg, hown, hk, hwg⟩ := hI
  obtain ⟨c0, f0⟩ := one_cell hg
  have hne := own_obj_ne hown hg (by decide)
  have hgs := obj_lt hg
  have HG := Lib.hid hg
  have HO := Lib.hid hown
  have HK := Lib.hid hk
  have HR := Lib.hid hr
  have HNE := Lib.hid hne
  obtain ⟨cb, hcb⟩ : ∃ cb, cb = UInt8.ofNat (x.length + 1) := ⟨_, rfl⟩
  have HU := Lib.hid (show cb.toNat = x.length + 1 by rw [hcb]; exact ofNat_toNat x.length hx)
  have HCB := Lib.hid hcb
  have hcv : IntKind.u8.wrap ((x.length : Int) + 1) = (x.length : Int) + 1 := by simp [IntKind.wrap, IntKind.bits, IntKind.signed]; omega
  clear hg hown hk hr hne hcb
  go_enter Try.func44, Try.ntmps44
  go_wp2_with (at_builtin; refine wpList_append_bytes (w0 := w0) w0.heap.size rfl _ _ 22 5 rfl Try.underlying22 info_u8 _ (stuffed gs) [cb] rfl ?a0 _ 1 rfl ?a1 ?a2 ?a3 ?a4 ?_)
  case a0 => exact HO.out.below ((Keeps.refl _).alloc _).below
  case a1 => exact Reads.new_at _ [cb] 5 (0, 0) #[.int .u8 ((x.length : Int) + 1)] (by rw [show u8s [cb] = [.int .u8 ((cb.toNat : Nat) : Int)] from rfl, HU.out]; rfl) _ (by simp)
  case a2 => simp; omega
  case a3 => have := HK.out.size; simp; omega
  case a4 => exact HK.out.alloc _
  intro v1 w1 hown1 hb1 hg1 hat1
  have T1 : Touch (fun j => v.ownBlock = some j) w w1 := ((Touch.refl _ w).alloc _).grown hg1 (fun j h _ => h)
  have hgb1 := T1.obj HG.out HNE.out
  have hne1 := own_obj_ne hown1 hgb1 (by decide)
  obtain ⟨st, hst⟩ : ∃ st, st = stuffed gs ++ [cb] := ⟨_, rfl⟩
  rw [← hst] at hown1
  have hsl : st.length ≤ 1099511627777 := by rw [hst]; simp; omega
  have HST := Lib.hid hst
  clear hst
  obtain ⟨d0, e0⟩ := one_cell hgb1
  have hgs1 := obj_lt hgb1
  obtain ⟨A1, m1, rfl, _⟩ := hown1.form
  have HO1 := Lib.hid (own_far hown1 (p := ⟨g, 0, none⟩) hne1 (.slice A1 st.length m1))
  have HG1 := Lib.hid (obj_set hgb1 0 (.slice A1 st.length m1))
  have HK1 := Lib.hid (show Keeps w0 (w1.setCell ⟨g, 0, none⟩ (.slice A1 st.length m1)) from ((Touch.of_below hb1 (F := fun j => w0.heap.size ≤ j) (fun _ _ h => h)).setCell _ _ (fun _ => hwg)).to_below _ (fun _ h _ => h) (Nat.le_refl _))
  have HNE1 := Lib.hid hne1
  clear hown1 hb1 hg1 hat1 T1 hgb1 hne1 c0 f0 hcv
  go_wp2_with (at_builtin; refine wpList_append_bytes (w0 := w0) w0.heap.size rfl _ _ 22 5 rfl Try.underlying22 info_u8 _ st x rfl HO1.out A c rfl ?b1 ?b2 ?b3 ?b4 ?_)
  case b1 => exact HR.out.below HK1.out.below
  case b2 => omega
  case b3 => exact HK1.out.size
  case b4 => exact HK1.out
  intro v2 w2 hown2 hb2 hg2 hat2
  have T2 := Touch.of_grown (F := fun j => (Value.slice A1 st.length m1).ownBlock = some j) hg2 (fun j h => h)
  have hgb2 := T2.obj HG1.out HNE1.out
  have hne2 := own_obj_ne hown2 hgb2 (by decide)
  obtain ⟨d2, e2⟩ := one_cell hgb2
  have hgs2 := obj_lt hgb2
  obtain ⟨st2, hst2⟩ : ∃ st2, st2 = st ++ x := ⟨_, rfl⟩
  rw [← hst2] at hown2
  have HST2 := Lib.hid (show st2 = stuffed (gs ++ [x]) by rw [hst2, HST.out, HCB.out, stuffed_snoc])
  clear hst2
  obtain ⟨A2, m2, rfl, _⟩ := hown2.form
  have HO2 := Lib.hid (own_far hown2 (p := ⟨g, 0, none⟩) hne2 (.slice A2 st2.length m2))
  have HG2 := Lib.hid (obj_set hgb2 0 (.slice A2 st2.length m2))
  have HK2 := Lib.hid (show Keeps w0 (w2.setCell ⟨g, 0, none⟩ (.slice A2 st2.length m2)) from ((Touch.of_below hb2 (F := fun j => w0.heap.size ≤ j) (fun _ _ h => h)).setCell _ _ (fun _ => hwg)).to_below _ (fun _ h _ => h) (Nat.le_refl _))
  clear hown2 hb2 hg2 hat2 T2 hgb2 hne2
  go_wp2
  go_end0
  refine ⟨rfl, _, HG2.out, ?_, HK2.out, hwg⟩
  rw [← HST2.out]
  exact HO2.out

def LenInv (w : World) (g : Nat) (gs : List (List UInt8)) (w' : World) : Prop :=
  w'.heap[g]? = some (.cells #[.int .i64 ((stuffed gs).length : Int)] 3 (0, 0)) ∧ Keeps w w' ∧ w.heap.size ≤ g

set_option maxHeartbeats 1000000 in
theorem len1_calls (w0 : World) (g : Nat) (gs : List (List UInt8)) (x : List UInt8) (A : Option Addr) (c : Nat) (w : World) (hI : LenInv w0 g gs w) (hs : (stuffed (gs ++ [x])).length ≤ 1099511627777777) :
    Calls Try.prog 45 #[.slice A x.length c, .pointer (some ⟨g, 0, none⟩)] w fun e w' => e = .returned (.tuple #[]) ∧ LenInv w0 g (gs ++ [x]) w' := by
  obtain ⟨hg, hk, hwg⟩ := hI
  obtain ⟨c0, f0⟩ := one_cell hg
  have hgs := obj_lt hg
  have hlen : (stuffed (gs ++ [x])).length = (stuffed gs).length + (1 + x.length) := by rw [stuffed_snoc]; simp; omega
  rw [hlen] at hs
  have HG := Lib.hid (show (w.setCell ⟨g, 0, none⟩ (.int .i64 (((stuffed gs).length : Int) + (1 + (x.length : Int))))).heap[g]? = some (.cells #[.int .i64 ((stuffed (gs ++ [x])).length : Int)] 3 (0, 0)) by
    rw [hlen, show (((stuffed gs).length + (1 + x.length) : Nat) : Int) = ((stuffed gs).length : Int) + (1 + (x.length : Int)) by omega]
    exact obj_set hg 0 _)
  have HK := Lib.hid (show Keeps w0 (w.setCell ⟨g, 0, none⟩ (.int .i64 (((stuffed gs).length : Int) + (1 + (x.length : Int))))) from ((Touch.of_below hk (F := fun j => w0.heap.size ≤ j) (fun _ _ h => h)).setCell _ _ (fun _ => hwg)).to_below _ (fun _ h _ => h) (Nat.le_refl _))
  clear hg hk hlen
  go_enter Try.func45, Try.ntmps45
  go_wp2
  go_end0
  exact ⟨rfl, HG.out, HK.out, hwg⟩

set_option maxHeartbeats 1000000 in
theorem stuff_calls (A : Option Addr) (c : Nat) (b : List UInt8) (w : World) (hl : b.length ≤ 549755813888) (hc : b.length ≤ c) (hr : Reads w A b) :
    Calls Try.prog 14 #[.slice A b.length c] w fun e w' => ∃ v, e = .returned v ∧ OwnB 5 w' w.heap.size v (stuffOf b) ∧ Keeps w w' := by
  have HR := Lib.hid hr
  have hlen := stuff_length b
  have hN : (stuffOf b).length ≤ 1099511627776 := by omega
  have hcf : ∀ (args : Array Value) (w : World), (callFunc 44 args).run Try.prog w = .ok (.enter 44 args) w := run_callFunc_body Try.func44 (by kernel_rfl) (by kernel_rfl)
  clear hr
  go_enter Try.func14, Try.ntmps14
  go_wp2_with fail
  refine (groups_calls 44 hcf ⟨w.heap.size, 0, none⟩ w _ (StuffInv w w.heap.size) (fun gs w' h => by obtain ⟨v, _, _, h, _⟩ := h; exact h) 1099511627776
    (fun gs g A c w1 h1 h2 h3 h4 => stuff1_calls w w.heap.size gs g A c w1 h1 h2 h3 (by rw [stuffed_append, List.length_append] at h4; omega)) A c b (by omega) hN hc HR.out
    ⟨.slice none 0 0, obj_new w _, OwnB.nil _ _ _, (Keeps.refl w).alloc _, Nat.le_refl _⟩).mono ?_
  rintro e w1 ⟨rfl, v, hg, hown, hk, _⟩
  obtain ⟨c0, f0⟩ := one_cell hg
  have HO := Lib.hid hown
  have HK := Lib.hid hk
  clear hg hown hk
  go_wp2
  go_ret
  exact ⟨v, rfl, HO.out, HK.out⟩

set_option maxHeartbeats 1000000 in
theorem len_calls (A : Option Addr) (c : Nat) (b : List UInt8) (w : World) (hl : b.length ≤ 549755813888) (hc : b.length ≤ c) (hr : Reads w A b) :
    Calls Try.prog 16 #[.slice A b.length c] w fun e w' => e = .returned (.int .i64 ((stuffOf b).length : Int)) ∧ Keeps w w' := by
  have HR := Lib.hid hr
  have hlen := stuff_length b
  have hN : (stuffOf b).length ≤ 1099511627776 := by omega
  have hcf : ∀ (args : Array Value) (w : World), (callFunc 45 args).run Try.prog w = .ok (.enter 45 args) w := run_callFunc_body Try.func45 (by kernel_rfl) (by kernel_rfl)
  clear hr
  go_enter Try.func16, Try.ntmps16
  go_wp2_with fail
  refine (groups_calls 45 hcf ⟨w.heap.size, 0, none⟩ w _ (LenInv w w.heap.size) (fun gs w' h => h.2.1) 1099511627776
    (fun gs g A c w1 h1 h2 h3 h4 => len1_calls w w.heap.size gs g A c w1 h1 (by omega)) A c b (by omega) hN hc HR.out
    ⟨obj_new w _, (Keeps.refl w).alloc _, Nat.le_refl _⟩).mono ?_
  rintro e w1 ⟨rfl, hg, hk, _⟩
  obtain ⟨c0, f0⟩ := one_cell hg
  have HK := Lib.hid hk
  clear hg hk
  go_wp2
  go_ret
  exact ⟨rfl, HK.out⟩
end Go.Proofs.Ytnfefjlplipeiab
