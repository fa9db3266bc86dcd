/-
  The limits of a kind of field.
-/
import Derived.Test.YtnjfefbeemicaaaDoorCalF
namespace Go.Proofs.YtnjfefbeemicaaaDoor
open Go.RowKit

def lim (k : Int) : Int × Int × Int := if k = 0 then (0, 59, 0) else if k = 1 then (0, 23, 0) else if k = 2 then (1, 31, 0) else if k = 3 then (1, 12, 0) else if k = 4 then (0, 7, 0) else (0, 0, 7)
def lim6 (k : Int) : Int × Int × Int := if k = 4 then (0, 6, 0) else lim k
theorem lim_cases (k : Int) : k = 0 ∨ k = 1 ∨ k = 2 ∨ k = 3 ∨ k = 4 ∨ (k ≠ 0 ∧ k ≠ 1 ∧ k ≠ 2 ∧ k ≠ 3 ∧ k ≠ 4) := by omega
set_option maxRecDepth 8000 in
set_option maxHeartbeats 1000000 in
theorem limits_any (k : Int) (w : World) : Calls Tryd.prog 68 #[.int .i64 k] w fun e w' => e = .returned (.tuple #[.int .i64 (lim k).1, .int .i64 (lim k).2.1, .int .i64 (lim k).2.2]) ∧ w' = w := by
  rcases lim_cases k with rfl | rfl | rfl | rfl | rfl | ⟨h0, h1, h2, h3, h4⟩
  case inr.inr.inr.inr.inr =>
    rw [show lim k = (0, 0, 7) by simp [lim, h0, h1, h2, h3, h4]]
    have t0 : (k == 0) = false := by simpa using h0
    have t1 : (k == 1) = false := by simpa using h1
    have t2 : (k == 2) = false := by simpa using h2
    have t3 : (k == 3) = false := by simpa using h3
    have t4 : (k == 4) = false := by simpa using h4
    clear h0 h1 h2 h3 h4
    go_enter Tryd.func68, Tryd.ntmps68
    go_wp2_with fail
    go_ret3
    exact ⟨rfl, rfl⟩
  all_goals
    go_enter Tryd.func68, Tryd.ntmps68
    go_wp2_with fail
    go_ret3
    exact ⟨rfl, rfl⟩
set_option maxRecDepth 8000 in
set_option maxHeartbeats 1000000 in
theorem rlimits_any (k : Int) (w : World) : Calls Tryd.prog 106 #[.int .i64 k] w fun e w' => e = .returned (.tuple #[.int .i64 (lim k).1, .int .i64 (lim k).2.1, .int .i64 (lim k).2.2]) ∧ w' = w := by
  rcases lim_cases k with rfl | rfl | rfl | rfl | rfl | ⟨h0, h1, h2, h3, h4⟩
  case inr.inr.inr.inr.inr =>
    rw [show lim k = (0, 0, 7) by simp [lim, h0, h1, h2, h3, h4]]
    have t0 : (k == 0) = false := by simpa using h0
    have t1 : (k == 1) = false := by simpa using h1
    have t2 : (k == 2) = false := by simpa using h2
    have t3 : (k == 3) = false := by simpa using h3
    have t4 : (k == 4) = false := by simpa using h4
    clear h0 h1 h2 h3 h4
    go_enter Tryd.func106, Tryd.ntmps106
    go_wp2_with fail
    go_ret3
    exact ⟨rfl, rfl⟩
  all_goals
    go_enter Tryd.func106, Tryd.ntmps106
    go_wp2_with fail
    go_ret3
    exact ⟨rfl, rfl⟩
theorem flimits_any (k : Int) (w : World) : Calls Tryd.prog 56 #[.int .i64 k] w fun e w' => e = .returned (.tuple #[.int .i64 (lim6 k).1, .int .i64 (lim6 k).2.1, .int .i64 (lim6 k).2.2]) ∧ w' = w := by
  have C := limits_any k w
  unfold lim6
  by_cases h : k = 4
  · subst h
    rw [if_pos rfl]
    have HC := Lib.hid C
    clear C
    go_enter Tryd.func56, Tryd.ntmps56
    go_wp2_with fail
    refine HC.out.mono ?_
    rintro e w1 ⟨rfl, rfl⟩
    go_wp2_with fail
    go_ret3
    exact ⟨rfl, rfl⟩
  · rw [if_neg h]
    have t : (k == 4) = false := by simpa using h
    clear h
    generalize lim k = l at *
    obtain ⟨l1, l2, l3⟩ := l
    have HC := Lib.hid C
    clear C
    go_enter Tryd.func56, Tryd.ntmps56
    go_wp2_with fail
    refine HC.out.mono ?_
    rintro e w1 ⟨rfl, rfl⟩
    go_wp2_with fail
    go_ret3
    exact ⟨rfl, rfl⟩
theorem rflimits_any (k : Int) (w : World) : Calls Tryd.prog 63 #[.int .i64 k] w fun e w' => e = .returned (.tuple #[.int .i64 (lim6 k).1, .int .i64 (lim6 k).2.1, .int .i64 (lim6 k).2.2]) ∧ w' = w := by
  have C := rlimits_any k w
  unfold lim6
  by_cases h : k = 4
  · subst h
    rw [if_pos rfl]
    have HC := Lib.hid C
    clear C
    go_enter Tryd.func63, Tryd.ntmps63
    go_wp2_with fail
    refine HC.out.mono ?_
    rintro e w1 ⟨rfl, rfl⟩
    go_wp2_with fail
    go_ret3
    exact ⟨rfl, rfl⟩
  · rw [if_neg h]
    have t : (k == 4) = false := by simpa using h
    clear h
    generalize lim k = l at *
    obtain ⟨l1, l2, l3⟩ := l
    have HC := Lib.hid C
    clear C
    go_enter Tryd.func63, Tryd.ntmps63
    go_wp2_with fail
    refine HC.out.mono ?_
    rintro e w1 ⟨rfl, rfl⟩
    go_wp2_with fail
    go_ret3
    exact ⟨rfl, rfl⟩
end Go.Proofs.YtnjfefbeemicaaaDoor
