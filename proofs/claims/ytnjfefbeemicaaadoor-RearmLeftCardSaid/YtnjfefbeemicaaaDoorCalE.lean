/-
  The day of the week; the document's date of a day.
-/
import Derived.Test.YtnjfefbeemicaaaDoorCalD
namespace Go.Proofs.YtnjfefbeemicaaaDoor
open Go.RowKit

theorem week_ok (n : Nat) (w : World) (h : n ≤ 376199) : Calls Tryd.prog 84 #[.int .i64 n] w fun e w' => e = .returned (.tuple #[.int .i64 ((n + 4) % 7 : Nat), .int .i64 0]) ∧ w' = w := by
  have t1 : decide ((n : Int) < 0) = false := by simp
  have t2 : decide (376199 < n) = false := by simpa using h
  have t3 : decide ((376199 : Int) < n) = false := by simp; omega
  go_enter Tryd.func84, Tryd.ntmps84
  go_wp2_with fail
  go_ret2
  refine ⟨?_, rfl⟩
  show Ending.returned (Value.tuple #[Value.int _ _, _]) = _
  refine congrArg (fun b => Ending.returned (Value.tuple #[Value.int .i64 b, .int .i64 0])) ?_
  omega
theorem ys_lt (k n : Nat) (h : ys k ≤ n) (hn : n ≤ 376199) : k ≤ 1029 := by
  rcases Nat.lt_or_ge 1029 k with hk | hk
  · have := ys_le (a := 1030) (b := k) (by omega)
    have := ys_top 1030 rfl
    omega
  · exact hk
set_option maxRecDepth 8000 in
theorem rdate_ok (n : Nat) (w : World) (h : n ≤ 376199) : Calls Tryd.prog 117 #[.int .i64 n] w fun e w' => ∃ y m d : Nat, e = .returned (.tuple #[.int .i64 y, .int .i64 m, .int .i64 d, .int .i64 0]) ∧ IsDate n y m d ∧ y ≤ 2999 ∧ w' = w := by
  have t1 : decide ((n : Int) < 0) = false := by simp
  have t2 : decide (376199 < n) = false := by simpa using h
  have t3 : decide ((376199 : Int) < n) = false := by simp; omega
  go_enter Tryd.func117, Tryd.ntmps117
  go_wp2_with fail
  clear t1 t2 t3
  go_loopw [0, 6] (fun d y wr => ∃ k r : Nat, ys k + r = n ∧ d = .int .i64 r ∧ y = .int .i64 ((k : Int) + 1970) ∧ wr = w) (fun d _ _ => (intOf d).toNat)
  case atStart => exact ⟨0, n, by simp [ys], rfl, rfl, rfl⟩
  case round =>
    obtain ⟨k, r, hr, rfl, rfl, rfl⟩ := hrel
    have hk := ys_lt k n (by omega) h
    have C := rdays_any (k + 1970) wr
    rw [show ((k + 1970 : Nat) : Int) = (k : Int) + 1970 by omega] at C
    have HC := Lib.hid C
    have b1 := days_pos (k + 1970)
    have hS := Lib.hid (ys_succ k)
    clear C
    have HR := Lib.hid hr
    have HH := Lib.hid h
    clear hr h
    generalize hdd : days (k + 1970) = dd at *
    have hD := Lib.hid hdd
    clear hdd
    have b2 : r ≤ 376199 := by have := HR.out; have := HH.out; omega
    by_cases hlt : dd ≤ r
    · have t1 : decide (dd ≤ r) = true := by simpa using hlt
      go_wp2_with (go_at_call 137; refine HC.out.mono ?_; rintro e w1 ⟨rfl, rfl⟩)
      refine ⟨⟨k + 1, r - dd, by have := HR.out; have := hS.out; omega, congrArg (Value.int .i64) (by omega), congrArg (Value.int .i64) (by omega), trivial⟩, ?_⟩
      simp only [intOf]
      omega
    · have t1 : decide (dd ≤ r) = false := by simpa using hlt
      go_wp2_with (go_at_call 137; refine HC.out.mono ?_; rintro e w1 ⟨rfl, rfl⟩)
      have hq : r < days (k + 1970) := by have := hD.out; omega
      have HQ := Lib.hid hq
      clear hq hlt t1 HC b1 hS hD
      go_loopw [0, 7] (fun d m wx => ∃ j q : Nat, j < 12 ∧ ms (k + 1970) j + q = r ∧ d = .int .i64 q ∧ m = .int .i64 ((j : Int) + 1) ∧ wx = w1) (fun d _ _ => (intOf d).toNat)
      case atStart => exact ⟨0, r, by omega, by simp [ms], rfl, rfl, rfl⟩
      case round =>
        obtain ⟨j, q, hj, hq, rfl, rfl, rfl⟩ := hrel
        have C := rlength_any (k + 1970) ((j : Int) + 1) wr
        rw [lenI_succ (k + 1970) j hj, show ((k + 1970 : Nat) : Int) = (k : Int) + 1970 by omega] at C
        have HC := Lib.hid C
        have hm : ms (k + 1970) (j + 1) = ms (k + 1970) j + len (k + 1970) (j + 1) := rfl
        have h12 : j = 11 → ms (k + 1970) (j + 1) = days (k + 1970) := by rintro rfl; exact ms_12 _
        have hfin : q < len (k + 1970) (j + 1) → IsDate n (k + 1970) (j + 1) (q + 1) := fun hl => ⟨by omega, by omega, by omega, by omega, by omega, by have := HR.out; rw [show k + 1970 - 1970 = k by omega, show j + 1 - 1 = j by omega]; omega⟩
        have HF := Lib.hid hfin
        have hgo : len (k + 1970) (j + 1) ≤ q → j + 1 < 12 := fun hl => by
          rcases Nat.lt_or_ge (j + 1) 12 with h | h
          · exact h
          · have := h12 (by omega); have := HQ.out; omega
        have HG := Lib.hid hgo
        have HM := Lib.hid hm
        have HQQ := Lib.hid hq
        have b5 := len_pos (k + 1970) (j + 1)
        have b6 : q ≤ r := by omega
        clear hm h12 hfin hgo hq C
        generalize len (k + 1970) (j + 1) = ll at *
        by_cases hlt : ll ≤ q
        · have t1 : decide (ll ≤ q) = true := by simpa using hlt
          go_wp2_with (go_at_call 118; refine HC.out.mono ?_; rintro e w1 ⟨rfl, rfl⟩)
          refine ⟨⟨j + 1, q - ll, HG.out hlt, by have := HM.out; have := HQQ.out; omega, congrArg (Value.int .i64) (by omega), congrArg (Value.int .i64) (by omega), trivial⟩, ?_⟩
          simp only [intOf]
          omega
        · have t1 : decide (ll ≤ q) = false := by simpa using hlt
          go_wp2_with (go_at_call 118; refine HC.out.mono ?_; rintro e w1 ⟨rfl, rfl⟩)
          exact bodyPost_ret (v := .tuple #[.int .i64 ((k : Int) + 1970), .int .i64 ((j : Int) + 1), .int .i64 ((q : Int) + 1), .int .i64 0]) (by simp [results, Tryd.results117, go_sem]) rfl
            ⟨k + 1970, j + 1, q + 1, by simp, HF.out (by omega), by omega, rfl⟩
end Go.Proofs.YtnjfefbeemicaaaDoor
