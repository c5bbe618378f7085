/-
  The walks of Quota and Counted. Condition: the block stands for the machine.
-/
import Derived.Test.YtnfefjlplipeiabDevRest
namespace Go.Proofs.Ytnfefjlplipeiab
open Go.RowKit Go.BigFrame
set_option linter.unusedVariables false
set_option linter.unusedSimpArgs false
section
variable (g : Nat) (S : Nat → Prop) (d : Dv) (w : World) (hd : DV w S g d)
include hd
set_option maxHeartbeats 400000 in
theorem devQuota_calls : Calls Try.prog 62 #[.pointer (some ⟨g, 0, none⟩)] w fun e w' => e = .returned (.int .i64 (d.quota : Int)) ∧ w = w' := by
  obtain ⟨v, bp, does, hat, hSg, hSv, hSb, rfl⟩ := hd
  obtain ⟨c0, c1, c2, c3, c4, c5, c6, c7, fz⟩ := dv_cells hat.1
  clear hat hSg hSv hSb
  go_enter Try.func62, Try.ntmps62
  go_wp2
  go_ret
  exact ⟨rfl, rfl⟩
set_option maxHeartbeats 400000 in
theorem devCounted_calls : Calls Try.prog 65 #[.pointer (some ⟨g, 0, none⟩)] w fun e w' => e = .returned (.int .i64 (d.counted : Int)) ∧ w = w' := by
  obtain ⟨v, bp, does, hat, hSg, hSv, hSb, rfl⟩ := hd
  obtain ⟨c0, c1, c2, c3, c4, c5, c6, c7, fz⟩ := dv_cells hat.1
  clear hat hSg hSv hSb
  go_enter Try.func65, Try.ntmps65
  go_wp2
  go_ret
  exact ⟨rfl, rfl⟩
end
end Go.Proofs.Ytnfefjlplipeiab
