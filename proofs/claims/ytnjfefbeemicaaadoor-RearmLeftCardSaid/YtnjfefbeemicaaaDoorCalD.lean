/-
  Days of a year ahead of a month; a date's day.
-/
import Derived.Test.YtnjfefbeemicaaaDoorCalC
namespace Go.Proofs.YtnjfefbeemicaaaDoor
open Go.RowKit

theorem lenI_succ (y j : Nat) (h : j < 12) : lenI y ((j : Int) + 1) = len y (j + 1) := by
  unfold lenI
  rw [if_neg (by omega)]
  congr 1
theorem ms_bound (y k : Nat) (h : k ≤ 12) : ms y k ≤ 366 := by
  have h1 := ms_le y h
  rw [ms_12] at h1
  have := (days_pos y).2
  omega
theorem gone_any (y k : Nat) (w : World) (h : k ≤ 12) : Calls Tryd.prog 95 #[.int .i64 y, .int .i64 ((k : Int) + 1)] w fun e w' => e = .returned (.int .i64 (ms y k)) ∧ w' = w := by
  go_enter Tryd.func95, Tryd.ntmps95
  go_wp2_with fail
  go_loopw [5, 6] (fun n m wr => ∃ j : Nat, j ≤ k ∧ m = .int .i64 ((j : Int) + 1) ∧ n = .int .i64 (ms y j) ∧ wr = w) (fun _ m _ => k + 1 - (intOf m).toNat)
  case atStart => exact ⟨0, Nat.zero_le _, rfl, rfl, rfl⟩
  case round =>
    obtain ⟨j, hj, rfl, rfl, rfl⟩ := hrel
    by_cases hlt : j < k
    · have C := length_any y ((j : Int) + 1) wr
      rw [lenI_succ y j (by omega)] at C
      have HC := Lib.hid C
      have b1 := ms_bound y j (by omega)
      have b2 := (len_pos y (j + 1)).2
      have hS := Lib.hid (show ms y (j + 1) = ms y j + len y (j + 1) from rfl)
      clear C
      go_wp2_with (go_at_call 124; refine HC.out.mono ?_; rintro e w1 ⟨rfl, rfl⟩)
      refine ⟨⟨j + 1, hlt, by simp, ?_, trivial⟩, ?_⟩
      · rw [hS.out]; simp
      · simp only [intOf]; omega
    · have hk : j = k := by omega
      subst hk
      go_wp2_with fail
      go_ret
      exact ⟨rfl, rfl⟩

set_option maxRecDepth 8000 in
theorem day_bad (y m d : Int) (w : World) (h : y < 1970 ∨ 2999 < y ∨ d < 1 ∨ lenI y.toNat m < d) : Calls Tryd.prog 90 #[.int .i64 y, .int .i64 m, .int .i64 d] w fun e w' => e = .returned (.tuple #[.int .i64 0, .int .i64 1]) ∧ w' = w := by
  by_cases h1 : y < 1970
  · have t1 : decide (y < 1970) = true := by simpa using h1
    clear h1 h
    go_enter Tryd.func90, Tryd.ntmps90
    go_wp2_with fail
    go_ret2
    exact ⟨rfl, rfl⟩
  have t1 : decide (y < 1970) = false := by simpa using h1
  by_cases h2 : 2999 < y
  · have t2 : decide (2999 < y) = true := by simpa using h2
    clear h1 h h2
    go_enter Tryd.func90, Tryd.ntmps90
    go_wp2_with fail
    go_ret2
    exact ⟨rfl, rfl⟩
  have t2 : decide (2999 < y) = false := by simpa using h2
  by_cases h3 : d < 1
  · have t3 : decide (d < 1) = true := by simpa using h3
    clear h1 h h2 h3
    go_enter Tryd.func90, Tryd.ntmps90
    go_wp2_with fail
    go_ret2
    exact ⟨rfl, rfl⟩
  have t3 : decide (d < 1) = false := by simpa using h3
  have t4 : decide (lenI y.toNat m < d) = true := by simp; omega
  have C := length_any y.toNat m w
  rw [show ((y.toNat : Nat) : Int) = y by omega] at C
  have HC := Lib.hid C
  clear C h h1 h2 h3
  generalize lenI y.toNat m = l at *
  go_enter Tryd.func90, Tryd.ntmps90
  go_wp2_with (go_at_call 124; refine HC.out.mono ?_; rintro e w1 ⟨rfl, rfl⟩)
  go_ret2
  exact ⟨rfl, rfl⟩
set_option maxRecDepth 8000 in
theorem day_ok (y k d : Nat) (w : World) (h1 : 1970 ≤ y) (h2 : y ≤ 2999) (h3 : k < 12) (h4 : 1 ≤ d) (h5 : d ≤ len y (k + 1)) :
    Calls Tryd.prog 90 #[.int .i64 y, .int .i64 ((k : Int) + 1), .int .i64 d] w fun e w' => e = .returned (.tuple #[.int .i64 ((ys (y - 1970) : Int) + ms y k + d - 1), .int .i64 0]) ∧ w' = w := by
  have t1 : decide ((y : Int) < 1970) = false := by simp; omega
  have t2 : decide (2999 < (y : Int)) = false := by simp; omega
  have t3 : decide ((d : Int) < 1) = false := by simp; omega
  have t4 : decide (len y (k + 1) < d) = false := by simp; omega
  have C := length_any y ((k : Int) + 1) w
  rw [lenI_succ y k h3] at C
  have A := ahead_any (y - 1970) w (by omega)
  rw [show ((y - 1970 : Nat) : Int) + 1970 = y by omega] at A
  have HC := Lib.hid C
  have HA := Lib.hid A
  have HG := Lib.hid (gone_any y k w (by omega))
  have b1 := ms_bound y k (by omega)
  have b2 := (len_pos y (k + 1)).2
  have b3 : ys (y - 1970) ≤ 400000 := by have := ys_eq (y - 1970); omega
  have b4 : d ≤ 31 := by omega
  clear C A h1 h2 h3 h4 h5
  generalize ys (y - 1970) = a at *
  go_enter Tryd.func90, Tryd.ntmps90
  go_wp2_with (first | (go_at_call 124; refine HC.out.mono ?_; rintro e w1 ⟨rfl, rfl⟩) | (go_at_call 93; refine HA.out.mono ?_; rintro e w1 ⟨rfl, rfl⟩) | (go_at_call 95; refine HG.out.mono ?_; rintro e w1 ⟨rfl, rfl⟩))
  go_ret2
  exact ⟨rfl, rfl⟩
end Go.Proofs.YtnjfefbeemicaaaDoor
