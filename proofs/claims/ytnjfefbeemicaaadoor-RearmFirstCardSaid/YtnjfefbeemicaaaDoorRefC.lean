/-
  The reference's day: complineref22.day, after; complineref21.On; complineref22.on, at.
-/
import Derived.Test.YtnjfefbeemicaaaDoorRefA
import Derived.Deep.RegionHeld3
namespace Go.Proofs.YtnjfefbeemicaaaDoor
open Go.RowKit Go.Shelf

abbrev dcs (n y m d : Int) : List Value := [.int .i64 n, .int .i64 y, .int .i64 m, .int .i64 d]
/-- A day of the reference: its number and its date. -/
def RDay (n : Nat) (w : World) (e : Ending) (w' : World) : Prop := ∃ y m d : Nat, e = .returned (.agg (dcs n y m d).toArray) ∧ IsDate n y m d ∧ Fr (fun _ => False) w w'
set_option maxRecDepth 8000 in
set_option maxHeartbeats 1000000 in
theorem rday_ok (n : Nat) (w : World) (h : n ≤ 376199) : Calls Tryd.prog 77 #[.int .i64 n] w fun e w' => RDay n w e w' := by
  have f0 : Fr (fun _ => False) w (w.alloc (.cells #[.int .i64 0, .int .i64 0, .int .i64 0, .int .i64 0] 125)) := (Fr.refl _ w).alloc _
  have kp := Bk.new w [.int .i64 0, .int .i64 0, .int .i64 0, .int .i64 0] 125
  have a0 := kp.cell 0 rfl
  have a1 := kp.cell 1 rfl
  have a2 := kp.cell 2 rfl
  have a3 := kp.cell 3 rfl
  have z0 := kp.free 0
  have z1 := kp.free 1
  have z2 := kp.free 2
  have z3 := kp.free 3
  have HF := Lib.hid (And.intro f0 kp)
  have HC := Lib.hid (fun w => rdate_ok n w h)
  clear f0 kp h
  go_enter Tryd.func77, Tryd.ntmps77
  go_wp2_with (go_at_call 117; refine (HC.out _).mono ?_; rintro e w1 ⟨y, m, d, rfl, hd, hy, rfl⟩; have HD := Lib.hid hd; clear hd hy)
  refine bodyPost_ret (results_cell_row rfl _ _ w.heap.size 125 (dcs n y m d).toArray (0, 0) _ rfl (Bk.new w (dcs n y m d) 125) Tryd.underlying125 rfl (by kernel_rfl)) rfl ⟨y, m, d, rfl, HD.out, (Fr.refl _ w).alloc _⟩
set_option maxRecDepth 8000 in
set_option maxHeartbeats 1000000 in
theorem rafter_ok (n y m d : Nat) (w : World) (hd : IsDate n y m d) (h : n ≤ 376199) : Calls Tryd.prog 78 #[.agg (dcs n y m d).toArray] w fun e w' => RDay (n + 1) w e w' := by
  have hN := hd.next
  have hy : y ≤ 3000 := by
    have := ys_lt (y - 1970) n hd.in_year.1 h
    omega
  have hm0 := hd.m0
  have hm1 := hd.m1
  have hl := lenI_succ y (m - 1) (by omega)
  rw [show ((m - 1 : Nat) : Int) + 1 = (m : Int) by omega, show m - 1 + 1 = m by omega] at hl
  have hlen := len_pos y m
  have hd1 := hd.d1
  have f0 : Fr (fun _ => False) w ((w.alloc (.cells (dcs n y m d).toArray 125)).alloc (.cells #[.int .i64 0, .int .i64 0, .int .i64 0, .int .i64 0] 125)) := ((Fr.refl _ w).alloc _).alloc _
  have kp := (Bk.new w (dcs n y m d) 125).al (.cells #[.int .i64 0, .int .i64 0, .int .i64 0, .int .i64 0] 125)
  have kq := Bk.new (w.alloc (.cells (dcs n y m d).toArray 125)) [.int .i64 0, .int .i64 0, .int .i64 0, .int .i64 0] 125
  rw [World.size_alloc] at kq
  have a0 := kp.cell 0 rfl
  have a1 := kp.cell 1 rfl
  have a2 := kp.cell 2 rfl
  have a3 := kp.cell 3 rfl
  have b0 := kq.cell 0 rfl
  have b1 := kq.cell 1 rfl
  have b2 := kq.cell 2 rfl
  have b3 := kq.cell 3 rfl
  have z0 := kq.free 0
  have z1 := kq.free 1
  have z2 := kq.free 2
  have z3 := kq.free 3
  have HF := Lib.hid (And.intro f0 kq)
  have HN := Lib.hid hN
  have HC := Lib.hid (fun w => rlength_any y (m : Int) w)
  rw [hl] at HC
  clear f0 kp kq hN hd hl
  generalize len y m = L at *
  by_cases h1 : d < L
  · have t1 : decide (d < L) = true := by simpa using h1
    rw [if_pos h1, if_pos h1, if_pos h1] at HN
    go_enter Tryd.func78, Tryd.ntmps78
    go_wp2_with fail
    go_quiet ((go_at_call 118; exact Calls.quiet_of_same (HC.out _)))
    go_wp2_with fail
    refine bodyPost_ret (results_cell_row rfl _ _ (w.heap.size + 1) 125 (dcs ((n : Int) + 1) y m ((d : Int) + 1)).toArray (0, 0) _ rfl (((((HF.out.2.drewN _).set 0 _).set 1 _).set 2 _).set 3 _) Tryd.underlying125 rfl (by kernel_rfl)) rfl ⟨y, m, d + 1, by simp, HN.out, ?_⟩
    (repeat' refine Fr.setCell ?_ (.inr (by simp)) _)
    exact HF.out.1.drewN _
  · have t1 : decide (d < L) = false := by simpa using h1
    rw [if_neg h1, if_neg h1, if_neg h1] at HN
    by_cases h2 : m < 12
    · have t2 : decide (m < 12) = true := by simpa using h2
      rw [if_pos h2, if_pos h2] at HN
      go_enter Tryd.func78, Tryd.ntmps78
      go_wp2_with fail
      go_quiet ((go_at_call 118; exact Calls.quiet_of_same (HC.out _)))
      go_wp2_with fail
      refine bodyPost_ret (results_cell_row rfl _ _ (w.heap.size + 1) 125 (dcs ((n : Int) + 1) y ((m : Int) + 1) 1).toArray (0, 0) _ rfl (((((HF.out.2.drewN _).set 0 _).set 1 _).set 2 _).set 3 _) Tryd.underlying125 rfl (by kernel_rfl)) rfl ⟨y, m + 1, 1, by simp, HN.out, ?_⟩
      (repeat' refine Fr.setCell ?_ (.inr (by simp)) _)
      exact HF.out.1.drewN _
    · have t2 : decide (m < 12) = false := by simpa using h2
      rw [if_neg h2, if_neg h2] at HN
      go_enter Tryd.func78, Tryd.ntmps78
      go_wp2_with fail
      go_quiet ((go_at_call 118; exact Calls.quiet_of_same (HC.out _)))
      go_wp2_with fail
      refine bodyPost_ret (results_cell_row rfl _ _ (w.heap.size + 1) 125 (dcs ((n : Int) + 1) ((y : Int) + 1) 1 1).toArray (0, 0) _ rfl (((((HF.out.2.drewN _).set 0 _).set 1 _).set 2 _).set 3 _) Tryd.underlying125 rfl (by kernel_rfl)) rfl ⟨y + 1, 1, 1, by simp, HN.out, ?_⟩
      (repeat' refine Fr.setCell ?_ (.inr (by simp)) _)
      exact HF.out.1.drewN _
end Go.Proofs.YtnjfefbeemicaaaDoor
