/-
  A month's length, walked.
-/
import Derived.Test.YtnjfefbeemicaaaDoorCalA
namespace Go.Proofs.YtnjfefbeemicaaaDoor
open Go.RowKit

theorem mi0 (w : World) : (Instr.index 178 (.agg #[.int .i64 31, .int .i64 28, .int .i64 31, .int .i64 30, .int .i64 31, .int .i64 30, .int .i64 31, .int .i64 31, .int .i64 30, .int .i64 31, .int .i64 30, .int .i64 31]) (.int .i64 0)).run Tryd.prog w = .ok (.int .i64 31) w := by kernel_rfl
theorem mi1 (w : World) : (Instr.index 178 (.agg #[.int .i64 31, .int .i64 28, .int .i64 31, .int .i64 30, .int .i64 31, .int .i64 30, .int .i64 31, .int .i64 31, .int .i64 30, .int .i64 31, .int .i64 30, .int .i64 31]) (.int .i64 1)).run Tryd.prog w = .ok (.int .i64 28) w := by kernel_rfl
theorem mi2 (w : World) : (Instr.index 178 (.agg #[.int .i64 31, .int .i64 28, .int .i64 31, .int .i64 30, .int .i64 31, .int .i64 30, .int .i64 31, .int .i64 31, .int .i64 30, .int .i64 31, .int .i64 30, .int .i64 31]) (.int .i64 2)).run Tryd.prog w = .ok (.int .i64 31) w := by kernel_rfl
theorem mi3 (w : World) : (Instr.index 178 (.agg #[.int .i64 31, .int .i64 28, .int .i64 31, .int .i64 30, .int .i64 31, .int .i64 30, .int .i64 31, .int .i64 31, .int .i64 30, .int .i64 31, .int .i64 30, .int .i64 31]) (.int .i64 3)).run Tryd.prog w = .ok (.int .i64 30) w := by kernel_rfl
theorem mi4 (w : World) : (Instr.index 178 (.agg #[.int .i64 31, .int .i64 28, .int .i64 31, .int .i64 30, .int .i64 31, .int .i64 30, .int .i64 31, .int .i64 31, .int .i64 30, .int .i64 31, .int .i64 30, .int .i64 31]) (.int .i64 4)).run Tryd.prog w = .ok (.int .i64 31) w := by kernel_rfl
theorem mi5 (w : World) : (Instr.index 178 (.agg #[.int .i64 31, .int .i64 28, .int .i64 31, .int .i64 30, .int .i64 31, .int .i64 30, .int .i64 31, .int .i64 31, .int .i64 30, .int .i64 31, .int .i64 30, .int .i64 31]) (.int .i64 5)).run Tryd.prog w = .ok (.int .i64 30) w := by kernel_rfl
theorem mi6 (w : World) : (Instr.index 178 (.agg #[.int .i64 31, .int .i64 28, .int .i64 31, .int .i64 30, .int .i64 31, .int .i64 30, .int .i64 31, .int .i64 31, .int .i64 30, .int .i64 31, .int .i64 30, .int .i64 31]) (.int .i64 6)).run Tryd.prog w = .ok (.int .i64 31) w := by kernel_rfl
theorem mi7 (w : World) : (Instr.index 178 (.agg #[.int .i64 31, .int .i64 28, .int .i64 31, .int .i64 30, .int .i64 31, .int .i64 30, .int .i64 31, .int .i64 31, .int .i64 30, .int .i64 31, .int .i64 30, .int .i64 31]) (.int .i64 7)).run Tryd.prog w = .ok (.int .i64 31) w := by kernel_rfl
theorem mi8 (w : World) : (Instr.index 178 (.agg #[.int .i64 31, .int .i64 28, .int .i64 31, .int .i64 30, .int .i64 31, .int .i64 30, .int .i64 31, .int .i64 31, .int .i64 30, .int .i64 31, .int .i64 30, .int .i64 31]) (.int .i64 8)).run Tryd.prog w = .ok (.int .i64 30) w := by kernel_rfl
theorem mi9 (w : World) : (Instr.index 178 (.agg #[.int .i64 31, .int .i64 28, .int .i64 31, .int .i64 30, .int .i64 31, .int .i64 30, .int .i64 31, .int .i64 31, .int .i64 30, .int .i64 31, .int .i64 30, .int .i64 31]) (.int .i64 9)).run Tryd.prog w = .ok (.int .i64 31) w := by kernel_rfl
theorem mi10 (w : World) : (Instr.index 178 (.agg #[.int .i64 31, .int .i64 28, .int .i64 31, .int .i64 30, .int .i64 31, .int .i64 30, .int .i64 31, .int .i64 31, .int .i64 30, .int .i64 31, .int .i64 30, .int .i64 31]) (.int .i64 10)).run Tryd.prog w = .ok (.int .i64 30) w := by kernel_rfl
theorem mi11 (w : World) : (Instr.index 178 (.agg #[.int .i64 31, .int .i64 28, .int .i64 31, .int .i64 30, .int .i64 31, .int .i64 30, .int .i64 31, .int .i64 31, .int .i64 30, .int .i64 31, .int .i64 30, .int .i64 31]) (.int .i64 11)).run Tryd.prog w = .ok (.int .i64 31) w := by kernel_rfl
theorem month_cases {m : Int} (h1 : 1 ≤ m) (h2 : m ≤ 12) : m = 1 ∨ m = 2 ∨ m = 3 ∨ m = 4 ∨ m = 5 ∨ m = 6 ∨ m = 7 ∨ m = 8 ∨ m = 9 ∨ m = 10 ∨ m = 11 ∨ m = 12 := by omega
set_option maxHeartbeats 4000000 in
set_option maxRecDepth 8000 in
theorem length_any (y : Nat) (m : Int) (w : World) : Calls Tryd.prog 124 #[.int .i64 y, .int .i64 m] w fun e w' => e = .returned (.int .i64 (lenI y m)) ∧ w' = w := by
  have r0 := mi0 w
  have r1 := mi1 w
  have r2 := mi2 w
  have r3 := mi3 w
  have r4 := mi4 w
  have r5 := mi5 w
  have r6 := mi6 w
  have r7 := mi7 w
  have r8 := mi8 w
  have r9 := mi9 w
  have r10 := mi10 w
  have r11 := mi11 w
  have C := Lib.hid (leap_any y w)
  by_cases hb : m < 1 ∨ 12 < m
  · rw [show lenI y m = 0 by unfold lenI; rw [if_pos hb]]
    by_cases h1 : m < 1
    · have t : decide (m < 1) = true := by simpa using h1
      clear h1 hb
      go_enter Tryd.func124, Tryd.ntmps124
      go_wp2_with fail
      go_ret
      exact ⟨rfl, rfl⟩
    · have t : decide (m < 1) = false := by simpa using h1
      have t2 : decide (12 < m) = true := by simp; omega
      clear h1 hb
      go_enter Tryd.func124, Tryd.ntmps124
      go_wp2_with fail
      go_ret
      exact ⟨rfl, rfl⟩
  · unfold lenI
    rw [if_neg hb]
    unfold len
    cases hl : leap y <;> rw [hl] at C
    all_goals
      clear hl
      rcases month_cases (m := m) (by omega) (by omega) with rfl | rfl | rfl | rfl | rfl | rfl | rfl | rfl | rfl | rfl | rfl | rfl
      all_goals
        clear hb
        go_enter Tryd.func124, Tryd.ntmps124
        go_wp2_with (go_at_call 140; refine C.out.mono ?_; rintro e w1 ⟨rfl, rfl⟩)
        go_ret
        exact ⟨rfl, rfl⟩
set_option maxHeartbeats 4000000 in
set_option maxRecDepth 8000 in
theorem rlength_any (y : Nat) (m : Int) (w : World) : Calls Tryd.prog 118 #[.int .i64 y, .int .i64 m] w fun e w' => e = .returned (.int .i64 (lenI y m)) ∧ w' = w := by
  have C := Lib.hid (rleap_any y w)
  by_cases hb : m < 1 ∨ 12 < m
  · rw [show lenI y m = 0 by unfold lenI; rw [if_pos hb]]
    by_cases h1 : m < 1
    · have t : decide (m < 1) = true := by simpa using h1
      clear h1 hb
      go_enter Tryd.func118, Tryd.ntmps118
      go_wp2_with fail
      go_ret
      exact ⟨rfl, rfl⟩
    · have t : decide (m < 1) = false := by simpa using h1
      have t2 : decide (12 < m) = true := by simp; omega
      clear h1 hb
      go_enter Tryd.func118, Tryd.ntmps118
      go_wp2_with fail
      go_ret
      exact ⟨rfl, rfl⟩
  · unfold lenI
    rw [if_neg hb]
    unfold len
    cases hl : leap y <;> rw [hl] at C
    all_goals
      clear hl
      rcases month_cases (m := m) (by omega) (by omega) with rfl | rfl | rfl | rfl | rfl | rfl | rfl | rfl | rfl | rfl | rfl | rfl
      all_goals
        clear hb
        go_enter Tryd.func118, Tryd.ntmps118
        go_wp2_with (go_at_call 138; refine C.out.mono ?_; rintro e w1 ⟨rfl, rfl⟩)
        go_ret
        exact ⟨rfl, rfl⟩
end Go.Proofs.YtnjfefbeemicaaaDoor
