/-
  The walk of Write. Condition: the block stands for the machine; the bytes that are written lie elsewhere.
-/
import Derived.Test.YtnfefjlplipeiabDevDeed
import Derived.Outline
namespace Go.Proofs.Ytnfefjlplipeiab
open Go.RowKit Go.BigFrame
set_option linter.unusedVariables false
set_option linter.unusedSimpArgs false

/-- its old blocks, and new ones but for the box -/
def Past (S : Nat → Prop) (n : Nat) : Nat → Prop := fun j => (S j ∧ j < n) ∨ n < j

set_option maxRecDepth 100000 in
set_option maxHeartbeats 2000000 in
theorem write_loop (g : Nat) (S : Nat → Prop) (d : Dv) (A : Option Addr) (c : Nat) (l : List UInt8) (w : World) (hd : DV w S g d) (hok : d.Ok) (hdn : d.down = false) (hl : 0 < l.length) (hq : d.b.length + l.length ≤ d.quota) (hr : Reads w A l) (hS : ∀ a, A = some a → l ≠ [] → ¬ S a.block)
    (hdd : d.deeds + l.length ≤ 9223372036854775806) :
    Calls Try.prog 22 #[.pointer (some ⟨g, 0, none⟩), .slice A l.length c] w fun e w' => e = .returned (.int .i64 (d.put l).2) ∧ DV w' (More S w) g (d.put l).1 ∧ Touch S w w' := by
  have HD := Lib.hid hd
  obtain ⟨v, bp, does0, hat, hSg, hSv, hSb, _⟩ := hd
  obtain ⟨A0, c0, rfl, hlc, _, hcm, _⟩ := hat.2.1.form
  obtain ⟨c0, c1, c2, c3, c4, c5, c6, c7, fz⟩ := dv_cells hat.1
  rw [hdn] at c3
  have hgs := obj_lt hat.1
  have hquo := hok.quota
  have hl0 : (0 : Int) < (l.length : Int) := by omega
  have hqq : decide ((d.quota : Int) < (d.b.length : Int) + (l.length : Int)) = false := by rw [decide_eq_false_iff_not]; omega
  have hmf : ∀ (fn : Fn) (first cap : Array Value) (w : World), (Instr.makeFunc fn first cap).run Try.prog w = .ok (.func fn first cap) w := fun _ _ _ _ => rfl
  have HOK := Lib.hid hok
  have HR := Lib.hid hr
  have HSA := Lib.hid hS
  have HDN := Lib.hid hdn
  clear hat hok hr hdn hSg hSv hSb hS
  go_enter Try.func22, Try.ntmps22
  go_wp2_with fail
  go_quiet (fail)
  go_wp2
  have hbx : ((w.alloc (.cells #[.pointer (some ⟨g, 0, none⟩)] 34)).drewN nq).heap[w.heap.size]? = some (.cells #[.pointer (some ⟨g, 0, none⟩)] 34 (0, 0)) := obj_new _ _
  have hd0 : DV ((w.alloc (.cells #[.pointer (some ⟨g, 0, none⟩)] 34)).drewN nq) (Past S w.heap.size) g d := ((HD.out.here).below (below_drewN ((Below.refl _ w).alloc (Nat.le_refl _) _) nq)).mono fun k _ h => .inl h
  have ht0 : Touch S w ((w.alloc (.cells #[.pointer (some ⟨g, 0, none⟩)] 34)).drewN nq) := ((Touch.refl S w).alloc _).drewN nq
  have HBX := Lib.hid hbx
  have HD0 := Lib.hid hd0
  have HT0 := Lib.hid ht0
  clear hbx hd0 ht0 c1 c2 c3 c4 c5 c6 c7 fz
  go_loopw [32] (fun i wr => ∃ (k : Nat) (dk : Dv), k ≤ l.length ∧ i = .int .i64 (k : Int) ∧ wr.heap[w.heap.size]? = some (.cells #[.pointer (some ⟨g, 0, none⟩)] 34 (0, 0)) ∧ DV wr (Past S w.heap.size) g dk ∧ Touch S w wr ∧ dk.Ok ∧ dk.b.length = d.b.length + k ∧ dk.deeds = d.deeds + k ∧ d.put l = dk.put (l.drop k)) (fun i _ => l.length - (intOf i).toNat)
  case atStart => exact ⟨0, d, Nat.zero_le _, rfl, HBX.out, HD0.out, HT0.out, HOK.out, rfl, rfl, rfl⟩
  case round =>
    obtain ⟨k, dk, hk, rfl, hbx, hdk, htk, hokk, hbk, hddk, hput⟩ := hrel
    have hws : w.heap.size < wr.heap.size := obj_lt hbx
    have hbxc : wr.cell? ⟨w.heap.size, 0, none⟩ = some (.pointer (some ⟨g, 0, none⟩)) := by rw [obj_cell hbx]; rfl
    have HBX1 := Lib.hid hbx
    have HDK := Lib.hid hdk
    have HTK := Lib.hid htk
    have HOKK := Lib.hid hokk
    have HBK := Lib.hid hbk
    have HDDK := Lib.hid hddk
    have HPUT := Lib.hid hput
    clear hbx hdk htk hokk hbk hddk hput HBX HD0 HT0 HD HOK
    by_cases hlt : k < l.length
    · have i1 : (0 : Int) ≤ (k : Int) := Int.natCast_nonneg _
      have i2 : (k : Int) < (l.length : Int) := by omega
      have hne : l ≠ [] := by intro h; rw [h] at hlt; simp at hlt
      have hal : ∀ a, A = some a → a.block < w.heap.size := fun a e => by
        subst e
        obtain ⟨ad, e1, hc⟩ := HR.out.out k hlt
        cases e1
        have := World.block_lt_of_cell? w _ hc
        rwa [addr_add_block] at this
      obtain ⟨a1, rfl, x1⟩ := (HTK.out.reads HR.out HSA.out).out k hlt
      have h1 : DV (wr.alloc (.cells #[.int .u8 (((l[k]'hlt).toNat : Nat) : Int)] 5)) (fun j => Past S w.heap.size j ∧ j < wr.heap.size) g dk := (HDK.out.here).below ((Below.refl _ wr).alloc (Nat.le_refl _) _)
      have hcf := fun (wx : World) => run_callFunc_body (P := Try.prog) Try.func47 (by kernel_rfl) (by kernel_rfl) #[.pointer (some ⟨w.heap.size, 0, none⟩), .pointer (some ⟨wr.heap.size, 0, none⟩)] wx
      obtain ⟨x, hx⟩ : ∃ x, x = l[k]'hlt := ⟨_, rfl⟩
      have hdrop : l.drop k = x :: l.drop (k + 1) := by rw [hx]; exact List.drop_eq_getElem_cons hlt
      rw [← hx] at x1 h1
      have H1 := Lib.hid h1
      have HDR := Lib.hid hdrop
      have HAL := Lib.hid hal
      have HX := Lib.hid hx
      clear h1 hdrop hal hx
      go_wp2_with fail
      have hpw : (wr.alloc (.cells #[.int .u8 ((x.toNat : Nat) : Int)] 5)).heap[w.heap.size]? = some (.cells #[.pointer (some ⟨g, 0, none⟩)] 34 (0, 0)) := obj_old HBX1.out _
      have hqw : (wr.alloc (.cells #[.int .u8 ((x.toNat : Nat) : Int)] 5)).cell? ⟨wr.heap.size, 0, none⟩ = some (.int .u8 ((x.toNat : Nat) : Int)) := by rw [obj_cell (obj_new _ _)]; rfl
      refine (deed_calls _ _ hcf g (fun j => Past S w.heap.size j ∧ j < wr.heap.size) dk { dk.deed.1 with b := dk.b ++ [x] } _ H1.out HOKK.out (by rw [HDDK.out]; omega) (fun ht v bp does w2 hat2 _ _ _ ht2 => ?_)).mono ?_
      · have hyes := Dv.deed_yes ht
        have := put1_calls w.heap.size wr.heap.size g v bp does dk.deed.1 x w2 hat2 (ht2.obj hpw (fun h => by rcases h.1 with h | h <;> omega)) (ht2.cell hqw (fun h => by have := h.2; simp only at this; omega)) (by rw [hyes.1]; have := HOKK.out.size; omega)
        rw [hyes.1] at this
        exact this
      · rintro e w3 ⟨rfl, hd3, ht3⟩
        have htk3 : Touch S w w3 := (HTK.out.alloc _).trans ht3 fun j hj h => by
          rcases h.1 with h | h
          · exact h.1
          · omega
        have hmore : ∀ j, j < w3.heap.size → More (fun j => Past S w.heap.size j ∧ j < wr.heap.size) (wr.alloc (.cells #[.int .u8 ((x.toNat : Nat) : Int)] 5)) j → Past S w.heap.size j := fun j _ h => by
          rcases h with h | h
          · exact h.1
          · have : wr.heap.size + 1 ≤ j := by simpa using h
            exact .inr (by omega)
        have hbx3 := ht3.obj hpw (fun h => by rcases h.1 with h | h <;> omega)
        have hd3' := hd3.mono hmore
        have HD3 := Lib.hid hd3'
        have HT3 := Lib.hid htk3
        have HBX3 := Lib.hid hbx3
        clear hd3 hd3' htk3 hmore ht3 hbx3 hpw hqw hcf
        cases hdd2 : dk.deed.2 with
        | true =>
          rw [hdd2] at HD3
          simp only [if_true] at HD3 ⊢
          have hyes := Dv.deed_yes hdd2
          have HY := Lib.hid hyes
          have HDD2 := Lib.hid hdd2
          clear hyes hdd2
          go_wp2
          refine ⟨⟨k + 1, { dk.deed.1 with b := dk.b ++ [x] }, by omega, by go_num, HBX3.out, HD3.out, HT3.out, ?_, ?_, ?_, ?_⟩, by simp [intOf]; omega⟩
          · obtain ⟨k1, k2, k3, k4⟩ := Dv.deed_ok HOKK.out
            have h1 := HOKK.out.synced
            have h2 := HBK.out
            obtain ⟨y1, y2, y3, y4⟩ := HY.out
            exact ⟨by simp only [List.length_append]; omega, by simp only [List.length_append, List.length_singleton]; omega, k3, k4⟩
          · simp only [List.length_append, List.length_singleton]; rw [HBK.out]; omega
          · simp only; rw [HY.out.2.2.1, HDDK.out]; omega
          · rw [HPUT.out, HDR.out, Dv.put_yes HDD2.out]
        | false =>
          rw [hdd2] at HD3
          simp only [if_false, Bool.false_eq_true] at HD3 ⊢
          have HDD2 := Lib.hid hdd2
          clear hdd2
          go_wp2
          go_ret
          rw [HPUT.out, HDR.out, Dv.put_no HDD2.out]
          exact ⟨rfl, HD3.out.mono fun j _ h => h.elim (fun h => .inl h.1) (fun h => .inr (Nat.le_of_lt h)), HT3.out⟩
    · go_wp2
      go_ret
      have hk' : k = l.length := by omega
      have hp := HPUT.out
      rw [hk', List.drop_length] at hp
      rw [hp]
      exact ⟨rfl, HDK.out.mono fun j _ h => h.elim (fun h => .inl h.1) (fun h => .inr (Nat.le_of_lt h)), HTK.out⟩

/-- the same file in a world in which nothing of it was touched -/
theorem DV.same {S : Nat → Prop} {w w' : World} {g : Nat} {d : Dv} (h : DV w S g d) (hb : Below w.heap.size w w') : DV w' (More S w) g d := (h.below hb).mono fun _ _ h => .inl h

set_option maxHeartbeats 1000000 in
theorem write_down (g : Nat) (S : Nat → Prop) (d : Dv) (A : Option Addr) (c n : Nat) (w : World) (hd : DV w S g d) (hdn : d.down = true) :
    Calls Try.prog 22 #[.pointer (some ⟨g, 0, none⟩), .slice A n c] w fun e w' => e = .returned (.int .i64 50) ∧ Below w.heap.size w w' := by
  obtain ⟨v, bp, does0, hat, _⟩ := hd
  obtain ⟨c0, c1, c2, c3, c4, c5, c6, c7, fz⟩ := dv_cells hat.1
  rw [hdn] at c3
  have hgs := obj_lt hat.1
  clear hat
  go_enter Try.func22, Try.ntmps22
  go_wp2
  go_ret
  exact ⟨rfl, (Below.refl _ _).alloc (Nat.le_refl _) _⟩

set_option maxHeartbeats 1000000 in
theorem write_none (g : Nat) (S : Nat → Prop) (d : Dv) (A : Option Addr) (c : Nat) (w : World) (hd : DV w S g d) (hdn : d.down = false) :
    Calls Try.prog 22 #[.pointer (some ⟨g, 0, none⟩), .slice A 0 c] w fun e w' => e = .returned (.int .i64 0) ∧ Below w.heap.size w w' := by
  obtain ⟨v, bp, does0, hat, _⟩ := hd
  obtain ⟨c0, c1, c2, c3, c4, c5, c6, c7, fz⟩ := dv_cells hat.1
  rw [hdn] at c3
  have hgs := obj_lt hat.1
  have hl0 : decide ((0 : Int) < 0) = false := by decide
  clear hat
  go_enter Try.func22, Try.ntmps22
  go_wp2_with fail
  go_quiet (fail)
  go_wp2
  go_loopw [32] (fun i wr => i = .int .i64 0 ∧ Below w.heap.size w wr) (fun i _ => 0)
  case atStart => exact ⟨rfl, below_drewN ((Below.refl _ w).alloc (Nat.le_refl _) _) nq⟩
  case round =>
    obtain ⟨rfl, hb⟩ := hrel
    go_wp2
    go_ret
    exact ⟨rfl, hb⟩

set_option maxHeartbeats 1000000 in
theorem write_full (g : Nat) (S : Nat → Prop) (d : Dv) (A : Option Addr) (c n : Nat) (w : World) (hd : DV w S g d) (hok : d.Ok) (hdn : d.down = false) (hl : 0 < n) (hn : n ≤ 1152921504606846976) (hq : d.quota < d.b.length + n) :
    Calls Try.prog 22 #[.pointer (some ⟨g, 0, none⟩), .slice A n c] w fun e w' => e = .returned (.int .i64 52) ∧ Below w.heap.size w w' := by
  obtain ⟨v, bp, does0, hat, _⟩ := hd
  obtain ⟨A0, c0, rfl, hlc, _, hcm, _⟩ := hat.2.1.form
  obtain ⟨c0, c1, c2, c3, c4, c5, c6, c7, fz⟩ := dv_cells hat.1
  rw [hdn] at c3
  have hgs := obj_lt hat.1
  have hsz := hok.size
  have hl0 : (0 : Int) < (n : Int) := by omega
  have hqq : decide ((d.quota : Int) < (d.b.length : Int) + (n : Int)) = true := by rw [decide_eq_true_eq]; omega
  clear hat
  go_enter Try.func22, Try.ntmps22
  go_wp2_with fail
  go_quiet (fail)
  go_wp2
  go_ret
  exact ⟨rfl, below_drewN ((Below.refl _ w).alloc (Nat.le_refl _) _) nq⟩

theorem write_calls (g : Nat) (S : Nat → Prop) (d : Dv) (A : Option Addr) (c : Nat) (l : List UInt8) (w : World) (hd : DV w S g d) (hok : d.Ok) (hr : Reads w A l) (hS : ∀ a, A = some a → l ≠ [] → ¬ S a.block) (hl : l.length ≤ 1152921504606846976)
    (hdd : d.deeds + l.length ≤ 9223372036854775806) :
    Calls Try.prog 22 #[.pointer (some ⟨g, 0, none⟩), .slice A l.length c] w fun e w' => e = .returned (.int .i64 (d.write l).2) ∧ DV w' (More S w) g (d.write l).1 ∧ Touch S w w' := by
  have quietly : ∀ {e : Ending} {w' : World} {v : Int}, (e = .returned (.int .i64 v) ∧ Below w.heap.size w w') → e = .returned (.int .i64 v) ∧ DV w' (More S w) g d ∧ Touch S w w' := fun h => ⟨h.1, hd.same h.2, (Touch.of_below h.2 fun k hk hb => absurd hk (by omega))⟩
  cases hdn : d.down with
  | true =>
    rw [show d.write l = (d, 50) by unfold Dv.write; rw [if_pos hdn]]
    exact (write_down g S d A c l.length w hd hdn).mono fun _ _ h => quietly h
  | false =>
    by_cases h0 : 0 < l.length
    · by_cases hq : d.quota < d.b.length + l.length
      · rw [show d.write l = (d, 52) by unfold Dv.write; rw [if_neg (by rw [hdn]; decide), if_pos ⟨h0, hq⟩]]
        exact (write_full g S d A c l.length w hd hok hdn h0 hl hq).mono fun _ _ h => quietly h
      · rw [show d.write l = d.put l by unfold Dv.write; rw [if_neg (by rw [hdn]; decide), if_neg (fun h => hq h.2)]]
        exact write_loop g S d A c l w hd hok hdn h0 (by omega) hr hS hdd
    · have hl0 : l = [] := List.eq_nil_of_length_eq_zero (by omega)
      subst hl0
      rw [show d.write [] = (d, 0) by unfold Dv.write; rw [if_neg (by rw [hdn]; decide), if_neg (fun h => h0 h.1)]; rfl]
      exact (write_none g S d A c w hd hdn).mono fun _ _ h => quietly h
end Go.Proofs.Ytnfefjlplipeiab
