/-
  The calendar's small functions, walked: the program's and the document's.
-/
import Derived.Test.YtnjfefbeemicaaaDoorProg
import Derived.Test.YtnjfefbeemicaaaDoorMem
import Derived.Test.YtnjfefbeemicaaaDoorCalP
namespace Go.Proofs.YtnjfefbeemicaaaDoor
open Go.RowKit

theorem leap_any (y : Nat) (w : World) : Calls Tryd.prog 140 #[.int .i64 y] w fun e w' => e = .returned (.bool (leap y)) ∧ w' = w := by
  go_enter Tryd.func140, Tryd.ntmps140
  go_wp2_with fail
  all_goals
    go_ret
    refine ⟨?_, rfl⟩
    show Ending.returned (Value.bool _) = _
    refine congrArg (fun b => Ending.returned (Value.bool b)) ?_
    rw [Bool.eq_iff_iff, leap_iff]
    simp
    omega
theorem rleap_any (y : Nat) (w : World) : Calls Tryd.prog 138 #[.int .i64 y] w fun e w' => e = .returned (.bool (leap y)) ∧ w' = w := by
  by_cases h : y % 400 = 0
  · have t : ((y : Int) % 400 == 0) = true := by simp; omega
    have hl : leap y = true := by rw [leap_iff]; omega
    rw [hl]
    clear h hl
    go_enter Tryd.func138, Tryd.ntmps138
    go_wp2_with fail
    go_ret
    exact ⟨rfl, rfl⟩
  · have t : ((y : Int) % 400 == 0) = false := by simp; omega
    have H := Lib.hid h
    clear h
    go_enter Tryd.func138, Tryd.ntmps138
    go_wp2_with fail
    all_goals
      go_ret
      refine ⟨?_, rfl⟩
      show Ending.returned (Value.bool _) = _
      refine congrArg (fun b => Ending.returned (Value.bool b)) ?_
      have h := H.out
      rw [Bool.eq_iff_iff, leap_iff]
      simp
      omega
theorem rdays_any (y : Nat) (w : World) : Calls Tryd.prog 137 #[.int .i64 y] w fun e w' => e = .returned (.int .i64 (days y)) ∧ w' = w := by
  go_enter Tryd.func137, Tryd.ntmps137
  have C := Lib.hid (rleap_any y w)
  unfold days
  cases h : leap y <;> rw [h] at C
  · go_wp2_with (go_at_call 138; refine C.out.mono ?_; rintro e w1 ⟨rfl, rfl⟩)
    go_ret
    exact ⟨rfl, rfl⟩
  · go_wp2_with (go_at_call 138; refine C.out.mono ?_; rintro e w1 ⟨rfl, rfl⟩)
    go_ret
    exact ⟨rfl, rfl⟩
/-- A month's length, 0 for what is no month. -/
def lenI (y : Nat) (m : Int) : Int := if m < 1 ∨ 12 < m then 0 else len y m.toNat
end Go.Proofs.YtnjfefbeemicaaaDoor
