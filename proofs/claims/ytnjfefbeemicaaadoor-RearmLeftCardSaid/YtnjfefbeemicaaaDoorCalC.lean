/-
  Days ahead of a year and of a month, walked.
-/
import Derived.Test.YtnjfefbeemicaaaDoorCalB
namespace Go.Proofs.YtnjfefbeemicaaaDoor
open Go.RowKit

theorem leaps_any (y : Nat) (w : World) (h : y ≤ 4000) : Calls Tryd.prog 125 #[.int .i64 y] w fun e w' => e = .returned (.int .i64 ((y : Int) / 4 - (y : Int) / 100 + (y : Int) / 400)) ∧ w' = w := by
  go_enter Tryd.func125, Tryd.ntmps125
  go_wp2_with fail
  go_ret
  exact ⟨rfl, rfl⟩
theorem ahead_any (k : Nat) (w : World) (h : k ≤ 2000) : Calls Tryd.prog 93 #[.int .i64 ((k : Int) + 1970)] w fun e w' => e = .returned (.int .i64 (ys k)) ∧ w' = w := by
  have C1 := leaps_any (k + 1969) w (by omega)
  have C2 := leaps_any 1969 w (by omega)
  have e1 : ((k + 1969 : Nat) : Int) = (k : Int) + 1970 - 1 := by omega
  rw [e1] at C1
  have hb : ((k : Int) + 1970 - 1) / 4 - ((k : Int) + 1970 - 1) / 100 + ((k : Int) + 1970 - 1) / 400 = (ys k : Int) + 477 - 365 * k := by have := ys_eq k; omega
  rw [hb] at C1
  rw [show (((1969 : Nat) : Int) / 4 - ((1969 : Nat) : Int) / 100 + ((1969 : Nat) : Int) / 400) = 477 by decide] at C2
  have b0 : (ys k : Int) + 477 - 365 * k ≤ 2000 := by have := ys_eq k; omega
  have b1 : 0 ≤ (ys k : Int) + 477 - 365 * k := by have := ys_eq k; omega
  have HC1 := Lib.hid C1
  have HC2 := Lib.hid C2
  clear C1 C2 e1 hb
  go_enter Tryd.func93, Tryd.ntmps93
  go_wp2_with fail
  refine HC1.out.mono ?_
  rintro e w1 ⟨rfl, rfl⟩
  go_wp2_with fail
  refine HC2.out.mono ?_
  rintro e w2 ⟨rfl, rfl⟩
  go_wp2_with fail
  go_ret
  refine ⟨?_, rfl⟩
  show Ending.returned (Value.int _ _) = _
  refine congrArg (fun b => Ending.returned (Value.int .i64 b)) ?_
  omega
end Go.Proofs.YtnjfefbeemicaaaDoor
