/-
  The reference's test of a plan: complineref23.Check.
-/
import Derived.Test.YtnjfefbeemicaaaDoorRefB
import Derived.Test.YtnjfefbeemicaaaDoorRearmA
namespace Go.Proofs.YtnjfefbeemicaaaDoor
open Go.RowKit Go.Shelf

theorem eql_spec (w : World) (x y : Sp) : (binOp .eql 26 (.agg x.cs.toArray) (.agg y.cs.toArray)).run Tryd.prog w = .ok (.bool (x.eqB y)) w := by
  rw [run_eql_struct, eq_spec 9997 w x y]
  rfl
theorem eql_zero (w : World) (x : Sp) : (binOp .eql 26 (.agg #[.int .u64 x.mi, .bool x.s0, .int .u64 x.ho, .bool x.s1, .int .u64 x.da, .bool x.s2, .int .u64 x.mo, .bool x.s3, .int .u64 x.we, .bool x.s4]) (.agg #[.int .u64 0, .bool false, .int .u64 0, .bool false, .int .u64 0, .bool false, .int .u64 0, .bool false, .int .u64 0, .bool false])).run Tryd.prog w = .ok (.bool (x.eqB Sp.zero)) w := eql_spec w x Sp.zero
set_option maxRecDepth 8000 in
set_option maxHeartbeats 1000000 in
theorem rk_neg (k : Int) (per : Nat) (l : Int) (x : Sp) (h : k < 0) (w : World) : Calls Tryd.prog 17 #[.agg (Pl.cs ⟨k, per, l, x⟩).toArray] w fun e w' => RChk ⟨k, per, l, x⟩ w e w' := by
  have hv : Pl.chk ⟨k, per, l, x⟩ = 7 := by unfold Pl.chk; rw [if_pos (.inl h)]
  unfold RChk
  rw [hv]
  clear hv
  have f0 : Fr (fun _ => False) w (w.alloc (.cells (Pl.cs ⟨k, per, l, x⟩).toArray 28)) := (Fr.refl _ w).alloc _
  have kp := Bk.new w (Pl.cs ⟨k, per, l, x⟩) 28
  have a0 := kp.cell 0 rfl
  have a1 := kp.cell 1 rfl
  have a2 := kp.cell 2 rfl
  have a3 := kp.cell 3 rfl
  have a4 := kp.cell 4 rfl
  have a5 := kp.cell 5 rfl
  have a6 := kp.cell 6 rfl
  have a7 := kp.cell 7 rfl
  have a8 := kp.cell 8 rfl
  have a9 := kp.cell 9 rfl
  have a10 := kp.cell 10 rfl
  have a11 := kp.cell 11 rfl
  have a12 := kp.cell 12 rfl
  have HF := Lib.hid (And.intro f0 kp)
  clear f0 kp
  have t0 : decide (k < 0) = true := by simpa using h
  clear h
  go_enter Tryd.func17, Tryd.ntmps17
  go_wp2_with fail
  go_ret
  exact ⟨rfl, HF.out.1⟩
set_option maxRecDepth 8000 in
set_option maxHeartbeats 1000000 in
theorem rk_over (k : Int) (per : Nat) (l : Int) (x : Sp) (h : 2 < k) (w : World) : Calls Tryd.prog 17 #[.agg (Pl.cs ⟨k, per, l, x⟩).toArray] w fun e w' => RChk ⟨k, per, l, x⟩ w e w' := by
  have hv : Pl.chk ⟨k, per, l, x⟩ = 7 := by unfold Pl.chk; rw [if_pos (.inr h)]
  unfold RChk
  rw [hv]
  clear hv
  have f0 : Fr (fun _ => False) w (w.alloc (.cells (Pl.cs ⟨k, per, l, x⟩).toArray 28)) := (Fr.refl _ w).alloc _
  have kp := Bk.new w (Pl.cs ⟨k, per, l, x⟩) 28
  have a0 := kp.cell 0 rfl
  have a1 := kp.cell 1 rfl
  have a2 := kp.cell 2 rfl
  have a3 := kp.cell 3 rfl
  have a4 := kp.cell 4 rfl
  have a5 := kp.cell 5 rfl
  have a6 := kp.cell 6 rfl
  have a7 := kp.cell 7 rfl
  have a8 := kp.cell 8 rfl
  have a9 := kp.cell 9 rfl
  have a10 := kp.cell 10 rfl
  have a11 := kp.cell 11 rfl
  have a12 := kp.cell 12 rfl
  have HF := Lib.hid (And.intro f0 kp)
  clear f0 kp
  have t0 : decide (k < 0) = false := by simp; omega
  have t1 : decide (2 < k) = true := by simpa using h
  clear h
  go_enter Tryd.func17, Tryd.ntmps17
  go_wp2_with fail
  go_ret
  exact ⟨rfl, HF.out.1⟩
set_option maxRecDepth 8000 in
set_option maxHeartbeats 1000000 in
theorem rk1_per (l : Int) (x : Sp) (w : World) : Calls Tryd.prog 17 #[.agg (Pl.cs ⟨1, 0, l, x⟩).toArray] w fun e w' => RChk ⟨1, 0, l, x⟩ w e w' := by
  have hv : Pl.chk ⟨1, 0, l, x⟩ = 10 := by unfold Pl.chk; simp
  unfold RChk
  rw [hv]
  clear hv
  have f0 : Fr (fun _ => False) w (w.alloc (.cells (Pl.cs ⟨1, 0, l, x⟩).toArray 28)) := (Fr.refl _ w).alloc _
  have kp := Bk.new w (Pl.cs ⟨1, 0, l, x⟩) 28
  have a0 := kp.cell 0 rfl
  have a1 := kp.cell 1 rfl
  have a2 := kp.cell 2 rfl
  have a3 := kp.cell 3 rfl
  have a4 := kp.cell 4 rfl
  have a5 := kp.cell 5 rfl
  have a6 := kp.cell 6 rfl
  have a7 := kp.cell 7 rfl
  have a8 := kp.cell 8 rfl
  have a9 := kp.cell 9 rfl
  have a10 := kp.cell 10 rfl
  have a11 := kp.cell 11 rfl
  have a12 := kp.cell 12 rfl
  have HF := Lib.hid (And.intro f0 kp)
  clear f0 kp
  go_enter Tryd.func17, Tryd.ntmps17
  go_wp2_with fail
  go_ret
  exact ⟨rfl, HF.out.1⟩
set_option maxRecDepth 8000 in
set_option maxHeartbeats 1000000 in
theorem rk1_neg (per : Nat) (l : Int) (x : Sp) (h0 : per ≠ 0) (h : l < 0) (w : World) : Calls Tryd.prog 17 #[.agg (Pl.cs ⟨1, per, l, x⟩).toArray] w fun e w' => RChk ⟨1, per, l, x⟩ w e w' := by
  have hv : Pl.chk ⟨1, per, l, x⟩ = 1 := by unfold Pl.chk; simp [h0, h]
  unfold RChk
  rw [hv]
  clear hv
  have f0 : Fr (fun _ => False) w (w.alloc (.cells (Pl.cs ⟨1, per, l, x⟩).toArray 28)) := (Fr.refl _ w).alloc _
  have kp := Bk.new w (Pl.cs ⟨1, per, l, x⟩) 28
  have a0 := kp.cell 0 rfl
  have a1 := kp.cell 1 rfl
  have a2 := kp.cell 2 rfl
  have a3 := kp.cell 3 rfl
  have a4 := kp.cell 4 rfl
  have a5 := kp.cell 5 rfl
  have a6 := kp.cell 6 rfl
  have a7 := kp.cell 7 rfl
  have a8 := kp.cell 8 rfl
  have a9 := kp.cell 9 rfl
  have a10 := kp.cell 10 rfl
  have a11 := kp.cell 11 rfl
  have a12 := kp.cell 12 rfl
  have HF := Lib.hid (And.intro f0 kp)
  clear f0 kp
  have t0 : ((per : Int) == 0) = false := by simpa using h0
  have t1 : decide (l < 0) = true := by simpa using h
  clear h h0
  go_enter Tryd.func17, Tryd.ntmps17
  go_wp2_with fail
  go_ret
  exact ⟨rfl, HF.out.1⟩
set_option maxRecDepth 8000 in
set_option maxHeartbeats 1000000 in
theorem rk1_spec (per : Nat) (l : Int) (x : Sp) (h0 : per ≠ 0) (h : ¬ l < 0) (hz : x.eqB Sp.zero = false) (w : World) : Calls Tryd.prog 17 #[.agg (Pl.cs ⟨1, per, l, x⟩).toArray] w fun e w' => RChk ⟨1, per, l, x⟩ w e w' := by
  have hv : Pl.chk ⟨1, per, l, x⟩ = 1 := by unfold Pl.chk Pl.only; simp [h0, h, Pl.eqB, hz]
  unfold RChk
  rw [hv]
  clear hv
  have f0 : Fr (fun _ => False) w (w.alloc (.cells (Pl.cs ⟨1, per, l, x⟩).toArray 28)) := (Fr.refl _ w).alloc _
  have kp := Bk.new w (Pl.cs ⟨1, per, l, x⟩) 28
  have a0 := kp.cell 0 rfl
  have a1 := kp.cell 1 rfl
  have a2 := kp.cell 2 rfl
  have a3 := kp.cell 3 rfl
  have a4 := kp.cell 4 rfl
  have a5 := kp.cell 5 rfl
  have a6 := kp.cell 6 rfl
  have a7 := kp.cell 7 rfl
  have a8 := kp.cell 8 rfl
  have a9 := kp.cell 9 rfl
  have a10 := kp.cell 10 rfl
  have a11 := kp.cell 11 rfl
  have a12 := kp.cell 12 rfl
  have HF := Lib.hid (And.intro f0 kp)
  clear f0 kp
  have t0 : ((per : Int) == 0) = false := by simpa using h0
  have t1 : decide (l < 0) = false := by simpa using h
  have ez := fun w => eql_zero w x
  rw [hz] at ez
  clear h h0 hz
  go_enter Tryd.func17, Tryd.ntmps17
  go_wp2_with fail
  go_ret
  exact ⟨rfl, HF.out.1⟩
set_option maxRecDepth 8000 in
set_option maxHeartbeats 1000000 in
theorem rk1_ok (per : Nat) (l : Int) (x : Sp) (h0 : per ≠ 0) (h : ¬ l < 0) (hz : x.eqB Sp.zero = true) (hx : x.Wf) (w : World) : Calls Tryd.prog 17 #[.agg (Pl.cs ⟨1, per, l, x⟩).toArray] w fun e w' => RChk ⟨1, per, l, x⟩ w e w' := by
  have hv : Pl.chk ⟨1, per, l, x⟩ = 0 := by unfold Pl.chk Pl.only; simp [h0, h, Pl.eqB, hz]
  unfold RChk
  rw [hv]
  clear hv
  have f0 : Fr (fun _ => False) w (w.alloc (.cells (Pl.cs ⟨1, per, l, x⟩).toArray 28)) := (Fr.refl _ w).alloc _
  have kp := Bk.new w (Pl.cs ⟨1, per, l, x⟩) 28
  have a0 := kp.cell 0 rfl
  have a1 := kp.cell 1 rfl
  have a2 := kp.cell 2 rfl
  have a3 := kp.cell 3 rfl
  have a4 := kp.cell 4 rfl
  have a5 := kp.cell 5 rfl
  have a6 := kp.cell 6 rfl
  have a7 := kp.cell 7 rfl
  have a8 := kp.cell 8 rfl
  have a9 := kp.cell 9 rfl
  have a10 := kp.cell 10 rfl
  have a11 := kp.cell 11 rfl
  have a12 := kp.cell 12 rfl
  have HF := Lib.hid (And.intro f0 kp)
  clear f0 kp
  have t0 : ((per : Int) == 0) = false := by simpa using h0
  have t1 : decide (l < 0) = false := by simpa using h
  have ez := fun w => eql_zero w x
  rw [hz] at ez
  clear h h0 hz
  have HC := Lib.hid (fun w => rscheck_any x w hx)
  clear hx
  go_enter Tryd.func17, Tryd.ntmps17
  go_wp2_with fail
  refine (HC.out _).mono ?_
  rintro e w1 ⟨rfl, f1⟩
  have HF1 := Lib.hid (HF.out.1.tr f1)
  have a0 := (HF.out.2.fr0 f1).cell 0 rfl
  clear f1
  go_wp2_with fail
  all_goals go_ret
  all_goals exact ⟨rfl, HF1.out⟩
set_option maxRecDepth 8000 in
set_option maxHeartbeats 1000000 in
theorem rk0_neg (per : Nat) (l : Int) (x : Sp) (h : l < 0) (w : World) : Calls Tryd.prog 17 #[.agg (Pl.cs ⟨0, per, l, x⟩).toArray] w fun e w' => RChk ⟨0, per, l, x⟩ w e w' := by
  have hv : Pl.chk ⟨0, per, l, x⟩ = 1 := by unfold Pl.chk; simp [h]
  unfold RChk
  rw [hv]
  clear hv
  have f0 : Fr (fun _ => False) w (w.alloc (.cells (Pl.cs ⟨0, per, l, x⟩).toArray 28)) := (Fr.refl _ w).alloc _
  have kp := Bk.new w (Pl.cs ⟨0, per, l, x⟩) 28
  have a0 := kp.cell 0 rfl
  have a1 := kp.cell 1 rfl
  have a2 := kp.cell 2 rfl
  have a3 := kp.cell 3 rfl
  have a4 := kp.cell 4 rfl
  have a5 := kp.cell 5 rfl
  have a6 := kp.cell 6 rfl
  have a7 := kp.cell 7 rfl
  have a8 := kp.cell 8 rfl
  have a9 := kp.cell 9 rfl
  have a10 := kp.cell 10 rfl
  have a11 := kp.cell 11 rfl
  have a12 := kp.cell 12 rfl
  have HF := Lib.hid (And.intro f0 kp)
  clear f0 kp
  have t1 : decide (l < 0) = true := by simpa using h
  clear h
  go_enter Tryd.func17, Tryd.ntmps17
  go_wp2_with fail
  go_ret
  exact ⟨rfl, HF.out.1⟩
set_option maxRecDepth 8000 in
set_option maxHeartbeats 1000000 in
theorem rk0_per (per : Nat) (l : Int) (x : Sp) (h : ¬ l < 0) (h0 : per ≠ 0) (w : World) : Calls Tryd.prog 17 #[.agg (Pl.cs ⟨0, per, l, x⟩).toArray] w fun e w' => RChk ⟨0, per, l, x⟩ w e w' := by
  have hv : Pl.chk ⟨0, per, l, x⟩ = 1 := by unfold Pl.chk Pl.only; simp [h, h0, Pl.eqB]
  unfold RChk
  rw [hv]
  clear hv
  have f0 : Fr (fun _ => False) w (w.alloc (.cells (Pl.cs ⟨0, per, l, x⟩).toArray 28)) := (Fr.refl _ w).alloc _
  have kp := Bk.new w (Pl.cs ⟨0, per, l, x⟩) 28
  have a0 := kp.cell 0 rfl
  have a1 := kp.cell 1 rfl
  have a2 := kp.cell 2 rfl
  have a3 := kp.cell 3 rfl
  have a4 := kp.cell 4 rfl
  have a5 := kp.cell 5 rfl
  have a6 := kp.cell 6 rfl
  have a7 := kp.cell 7 rfl
  have a8 := kp.cell 8 rfl
  have a9 := kp.cell 9 rfl
  have a10 := kp.cell 10 rfl
  have a11 := kp.cell 11 rfl
  have a12 := kp.cell 12 rfl
  have HF := Lib.hid (And.intro f0 kp)
  clear f0 kp
  have t1 : decide (l < 0) = false := by simpa using h
  have t2 : ((per : Int) != 0) = true := by simpa using h0
  clear h h0
  go_enter Tryd.func17, Tryd.ntmps17
  go_wp2_with fail
  go_ret
  exact ⟨rfl, HF.out.1⟩
set_option maxRecDepth 8000 in
set_option maxHeartbeats 1000000 in
theorem rk0_left (l : Int) (x : Sp) (h : ¬ l < 0) (h0 : l ≠ 0) (w : World) : Calls Tryd.prog 17 #[.agg (Pl.cs ⟨0, 0, l, x⟩).toArray] w fun e w' => RChk ⟨0, 0, l, x⟩ w e w' := by
  have hv : Pl.chk ⟨0, 0, l, x⟩ = 1 := by unfold Pl.chk Pl.only; simp [h, h0, Pl.eqB]
  unfold RChk
  rw [hv]
  clear hv
  have f0 : Fr (fun _ => False) w (w.alloc (.cells (Pl.cs ⟨0, 0, l, x⟩).toArray 28)) := (Fr.refl _ w).alloc _
  have kp := Bk.new w (Pl.cs ⟨0, 0, l, x⟩) 28
  have a0 := kp.cell 0 rfl
  have a1 := kp.cell 1 rfl
  have a2 := kp.cell 2 rfl
  have a3 := kp.cell 3 rfl
  have a4 := kp.cell 4 rfl
  have a5 := kp.cell 5 rfl
  have a6 := kp.cell 6 rfl
  have a7 := kp.cell 7 rfl
  have a8 := kp.cell 8 rfl
  have a9 := kp.cell 9 rfl
  have a10 := kp.cell 10 rfl
  have a11 := kp.cell 11 rfl
  have a12 := kp.cell 12 rfl
  have HF := Lib.hid (And.intro f0 kp)
  clear f0 kp
  have t1 : decide (l < 0) = false := by simpa using h
  have t2 : (l != 0) = true := by simpa using h0
  clear h h0
  go_enter Tryd.func17, Tryd.ntmps17
  go_wp2_with fail
  go_ret
  exact ⟨rfl, HF.out.1⟩
set_option maxRecDepth 8000 in
set_option maxHeartbeats 1000000 in
theorem rk2_neg (per : Nat) (l : Int) (x : Sp) (h : l < 0) (w : World) : Calls Tryd.prog 17 #[.agg (Pl.cs ⟨2, per, l, x⟩).toArray] w fun e w' => RChk ⟨2, per, l, x⟩ w e w' := by
  have hv : Pl.chk ⟨2, per, l, x⟩ = 1 := by unfold Pl.chk; simp [h]
  unfold RChk
  rw [hv]
  clear hv
  have f0 : Fr (fun _ => False) w (w.alloc (.cells (Pl.cs ⟨2, per, l, x⟩).toArray 28)) := (Fr.refl _ w).alloc _
  have kp := Bk.new w (Pl.cs ⟨2, per, l, x⟩) 28
  have a0 := kp.cell 0 rfl
  have a1 := kp.cell 1 rfl
  have a2 := kp.cell 2 rfl
  have a3 := kp.cell 3 rfl
  have a4 := kp.cell 4 rfl
  have a5 := kp.cell 5 rfl
  have a6 := kp.cell 6 rfl
  have a7 := kp.cell 7 rfl
  have a8 := kp.cell 8 rfl
  have a9 := kp.cell 9 rfl
  have a10 := kp.cell 10 rfl
  have a11 := kp.cell 11 rfl
  have a12 := kp.cell 12 rfl
  have HF := Lib.hid (And.intro f0 kp)
  clear f0 kp
  have t1 : decide (l < 0) = true := by simpa using h
  clear h
  go_enter Tryd.func17, Tryd.ntmps17
  go_wp2_with fail
  go_ret
  exact ⟨rfl, HF.out.1⟩
set_option maxRecDepth 8000 in
set_option maxHeartbeats 1000000 in
theorem rk2_per (per : Nat) (l : Int) (x : Sp) (h : ¬ l < 0) (h0 : per ≠ 0) (w : World) : Calls Tryd.prog 17 #[.agg (Pl.cs ⟨2, per, l, x⟩).toArray] w fun e w' => RChk ⟨2, per, l, x⟩ w e w' := by
  have hv : Pl.chk ⟨2, per, l, x⟩ = 1 := by unfold Pl.chk Pl.only; simp [h, h0, Pl.eqB]
  unfold RChk
  rw [hv]
  clear hv
  have f0 : Fr (fun _ => False) w (w.alloc (.cells (Pl.cs ⟨2, per, l, x⟩).toArray 28)) := (Fr.refl _ w).alloc _
  have kp := Bk.new w (Pl.cs ⟨2, per, l, x⟩) 28
  have a0 := kp.cell 0 rfl
  have a1 := kp.cell 1 rfl
  have a2 := kp.cell 2 rfl
  have a3 := kp.cell 3 rfl
  have a4 := kp.cell 4 rfl
  have a5 := kp.cell 5 rfl
  have a6 := kp.cell 6 rfl
  have a7 := kp.cell 7 rfl
  have a8 := kp.cell 8 rfl
  have a9 := kp.cell 9 rfl
  have a10 := kp.cell 10 rfl
  have a11 := kp.cell 11 rfl
  have a12 := kp.cell 12 rfl
  have HF := Lib.hid (And.intro f0 kp)
  clear f0 kp
  have t1 : decide (l < 0) = false := by simpa using h
  have t2 : ((per : Int) != 0) = true := by simpa using h0
  clear h h0
  go_enter Tryd.func17, Tryd.ntmps17
  go_wp2_with fail
  go_ret
  exact ⟨rfl, HF.out.1⟩
set_option maxRecDepth 8000 in
set_option maxHeartbeats 1000000 in
theorem rk2_left (l : Int) (x : Sp) (h : ¬ l < 0) (h0 : l ≠ 0) (w : World) : Calls Tryd.prog 17 #[.agg (Pl.cs ⟨2, 0, l, x⟩).toArray] w fun e w' => RChk ⟨2, 0, l, x⟩ w e w' := by
  have hv : Pl.chk ⟨2, 0, l, x⟩ = 1 := by unfold Pl.chk Pl.only; simp [h, h0, Pl.eqB]
  unfold RChk
  rw [hv]
  clear hv
  have f0 : Fr (fun _ => False) w (w.alloc (.cells (Pl.cs ⟨2, 0, l, x⟩).toArray 28)) := (Fr.refl _ w).alloc _
  have kp := Bk.new w (Pl.cs ⟨2, 0, l, x⟩) 28
  have a0 := kp.cell 0 rfl
  have a1 := kp.cell 1 rfl
  have a2 := kp.cell 2 rfl
  have a3 := kp.cell 3 rfl
  have a4 := kp.cell 4 rfl
  have a5 := kp.cell 5 rfl
  have a6 := kp.cell 6 rfl
  have a7 := kp.cell 7 rfl
  have a8 := kp.cell 8 rfl
  have a9 := kp.cell 9 rfl
  have a10 := kp.cell 10 rfl
  have a11 := kp.cell 11 rfl
  have a12 := kp.cell 12 rfl
  have HF := Lib.hid (And.intro f0 kp)
  clear f0 kp
  have t1 : decide (l < 0) = false := by simpa using h
  have t2 : (l != 0) = true := by simpa using h0
  clear h h0
  go_enter Tryd.func17, Tryd.ntmps17
  go_wp2_with fail
  go_ret
  exact ⟨rfl, HF.out.1⟩
set_option maxRecDepth 8000 in
set_option maxHeartbeats 1000000 in
theorem rk0_spec (x : Sp) (hz : x.eqB Sp.zero = false) (w : World) : Calls Tryd.prog 17 #[.agg (Pl.cs ⟨0, 0, 0, x⟩).toArray] w fun e w' => RChk ⟨0, 0, 0, x⟩ w e w' := by
  have hv : Pl.chk ⟨0, 0, 0, x⟩ = 1 := by unfold Pl.chk Pl.only; simp [Pl.eqB, hz]
  unfold RChk
  rw [hv]
  clear hv
  have f0 : Fr (fun _ => False) w (w.alloc (.cells (Pl.cs ⟨0, 0, 0, x⟩).toArray 28)) := (Fr.refl _ w).alloc _
  have kp := Bk.new w (Pl.cs ⟨0, 0, 0, x⟩) 28
  have a0 := kp.cell 0 rfl
  have a1 := kp.cell 1 rfl
  have a2 := kp.cell 2 rfl
  have a3 := kp.cell 3 rfl
  have a4 := kp.cell 4 rfl
  have a5 := kp.cell 5 rfl
  have a6 := kp.cell 6 rfl
  have a7 := kp.cell 7 rfl
  have a8 := kp.cell 8 rfl
  have a9 := kp.cell 9 rfl
  have a10 := kp.cell 10 rfl
  have a11 := kp.cell 11 rfl
  have a12 := kp.cell 12 rfl
  have HF := Lib.hid (And.intro f0 kp)
  clear f0 kp
  have ez := fun w => eql_zero w x
  rw [hz] at ez
  clear hz
  go_enter Tryd.func17, Tryd.ntmps17
  go_wp2_with fail
  go_ret
  exact ⟨rfl, HF.out.1⟩
set_option maxRecDepth 8000 in
set_option maxHeartbeats 1000000 in
theorem rk0_ok (x : Sp) (hz : x.eqB Sp.zero = true) (hx : x.Wf) (w : World) : Calls Tryd.prog 17 #[.agg (Pl.cs ⟨0, 0, 0, x⟩).toArray] w fun e w' => RChk ⟨0, 0, 0, x⟩ w e w' := by
  have hv : Pl.chk ⟨0, 0, 0, x⟩ = 0 := by unfold Pl.chk Pl.only; simp [Pl.eqB, hz]
  unfold RChk
  rw [hv]
  clear hv
  have f0 : Fr (fun _ => False) w (w.alloc (.cells (Pl.cs ⟨0, 0, 0, x⟩).toArray 28)) := (Fr.refl _ w).alloc _
  have kp := Bk.new w (Pl.cs ⟨0, 0, 0, x⟩) 28
  have a0 := kp.cell 0 rfl
  have a1 := kp.cell 1 rfl
  have a2 := kp.cell 2 rfl
  have a3 := kp.cell 3 rfl
  have a4 := kp.cell 4 rfl
  have a5 := kp.cell 5 rfl
  have a6 := kp.cell 6 rfl
  have a7 := kp.cell 7 rfl
  have a8 := kp.cell 8 rfl
  have a9 := kp.cell 9 rfl
  have a10 := kp.cell 10 rfl
  have a11 := kp.cell 11 rfl
  have a12 := kp.cell 12 rfl
  have HF := Lib.hid (And.intro f0 kp)
  clear f0 kp
  have ez := fun w => eql_zero w x
  rw [hz] at ez
  clear hz
  have HC := Lib.hid (fun w => rscheck_any x w hx)
  clear hx
  go_enter Tryd.func17, Tryd.ntmps17
  go_wp2_with fail
  refine (HC.out _).mono ?_
  rintro e w1 ⟨rfl, f1⟩
  have HF1 := Lib.hid (HF.out.1.tr f1)
  have a0 := (HF.out.2.fr0 f1).cell 0 rfl
  clear f1
  go_wp2_with fail
  all_goals go_ret
  all_goals exact ⟨rfl, HF1.out⟩
set_option maxRecDepth 8000 in
set_option maxHeartbeats 1000000 in
theorem rk2_ok (x : Sp) (b : Bool) (hz : x.eqB Sp.zero = b) (hk : x.ok = true) (hx : x.Wf) (w : World) : Calls Tryd.prog 17 #[.agg (Pl.cs ⟨2, 0, 0, x⟩).toArray] w fun e w' => RChk ⟨2, 0, 0, x⟩ w e w' := by
  have hv : Pl.chk ⟨2, 0, 0, x⟩ = 0 := by unfold Pl.chk Pl.only; simp [Pl.eqB, hk]; simp [Sp.eqB]
  unfold RChk
  rw [hv]
  clear hv
  have f0 : Fr (fun _ => False) w (w.alloc (.cells (Pl.cs ⟨2, 0, 0, x⟩).toArray 28)) := (Fr.refl _ w).alloc _
  have kp := Bk.new w (Pl.cs ⟨2, 0, 0, x⟩) 28
  have a0 := kp.cell 0 rfl
  have a1 := kp.cell 1 rfl
  have a2 := kp.cell 2 rfl
  have a3 := kp.cell 3 rfl
  have a4 := kp.cell 4 rfl
  have a5 := kp.cell 5 rfl
  have a6 := kp.cell 6 rfl
  have a7 := kp.cell 7 rfl
  have a8 := kp.cell 8 rfl
  have a9 := kp.cell 9 rfl
  have a10 := kp.cell 10 rfl
  have a11 := kp.cell 11 rfl
  have a12 := kp.cell 12 rfl
  have HF := Lib.hid (And.intro f0 kp)
  clear f0 kp
  have ez := fun w => eql_zero w x
  rw [hz] at ez
  have HK := Lib.hid hk
  clear hz hk
  have HC := Lib.hid (fun w => rscheck_any x w hx)
  clear hx
  go_enter Tryd.func17, Tryd.ntmps17
  go_wp2_with fail
  refine (HC.out _).mono ?_
  rintro e w1 ⟨rfl, f1⟩
  rw [HK.out]
  have HF1 := Lib.hid (HF.out.1.tr f1)
  have a0 := (HF.out.2.fr0 f1).cell 0 rfl
  clear f1
  go_wp2_with fail
  all_goals go_ret
  all_goals exact ⟨rfl, HF1.out⟩
set_option maxRecDepth 8000 in
set_option maxHeartbeats 1000000 in
theorem rk2_bad (x : Sp) (b : Bool) (hz : x.eqB Sp.zero = b) (hk : x.ok = false) (hx : x.Wf) (w : World) : Calls Tryd.prog 17 #[.agg (Pl.cs ⟨2, 0, 0, x⟩).toArray] w fun e w' => RChk ⟨2, 0, 0, x⟩ w e w' := by
  have hv : Pl.chk ⟨2, 0, 0, x⟩ = 2 := by unfold Pl.chk Pl.only; simp [Pl.eqB, hk]; simp [Sp.eqB]
  unfold RChk
  rw [hv]
  clear hv
  have f0 : Fr (fun _ => False) w (w.alloc (.cells (Pl.cs ⟨2, 0, 0, x⟩).toArray 28)) := (Fr.refl _ w).alloc _
  have kp := Bk.new w (Pl.cs ⟨2, 0, 0, x⟩) 28
  have a0 := kp.cell 0 rfl
  have a1 := kp.cell 1 rfl
  have a2 := kp.cell 2 rfl
  have a3 := kp.cell 3 rfl
  have a4 := kp.cell 4 rfl
  have a5 := kp.cell 5 rfl
  have a6 := kp.cell 6 rfl
  have a7 := kp.cell 7 rfl
  have a8 := kp.cell 8 rfl
  have a9 := kp.cell 9 rfl
  have a10 := kp.cell 10 rfl
  have a11 := kp.cell 11 rfl
  have a12 := kp.cell 12 rfl
  have HF := Lib.hid (And.intro f0 kp)
  clear f0 kp
  have ez := fun w => eql_zero w x
  rw [hz] at ez
  have HK := Lib.hid hk
  clear hz hk
  have HC := Lib.hid (fun w => rscheck_any x w hx)
  clear hx
  go_enter Tryd.func17, Tryd.ntmps17
  go_wp2_with fail
  refine (HC.out _).mono ?_
  rintro e w1 ⟨rfl, f1⟩
  rw [HK.out]
  have HF1 := Lib.hid (HF.out.1.tr f1)
  have a0 := (HF.out.2.fr0 f1).cell 0 rfl
  clear f1
  go_wp2_with fail
  all_goals go_ret
  all_goals exact ⟨rfl, HF1.out⟩
theorem rrchk_any (p : Pl) (w : World) (hx : p.x.Wf) : Calls Tryd.prog 17 #[.agg p.cs.toArray] w fun e w' => RChk p w e w' := by
  obtain ⟨k, per, l, x⟩ := p
  by_cases h1 : k < 0
  · exact rk_neg k per l x h1 w
  by_cases h2 : 2 < k
  · exact rk_over k per l x h2 w
  rcases (by omega : k = 1 ∨ k = 0 ∨ k = 2) with rfl | rfl | rfl
  · by_cases h0 : per = 0
    · subst h0; exact rk1_per l x w
    by_cases h : l < 0
    · exact rk1_neg per l x h0 h w
    cases hz : x.eqB Sp.zero
    · exact rk1_spec per l x h0 h hz w
    · exact rk1_ok per l x h0 h hz hx w
  · by_cases h : l < 0
    · exact rk0_neg per l x h w
    by_cases h0 : per = 0
    · subst h0
      by_cases hl : l = 0
      · subst hl
        cases hz : x.eqB Sp.zero
        · exact rk0_spec x hz w
        · exact rk0_ok x hz hx w
      · exact rk0_left l x h hl w
    · exact rk0_per per l x h h0 w
  · by_cases h : l < 0
    · exact rk2_neg per l x h w
    by_cases h0 : per = 0
    · subst h0
      by_cases hl : l = 0
      · subst hl
        cases hk : x.ok
        · exact rk2_bad x _ rfl hk hx w
        · exact rk2_ok x _ rfl hk hx w
      · exact rk2_left l x h hl w
    · exact rk2_per per l x h h0 w
end Go.Proofs.YtnjfefbeemicaaaDoor
