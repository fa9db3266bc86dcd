/-
  The reference: when a plan fires again (complineref23.Again).
-/
import Derived.Test.YtnjfefbeemicaaaDoorRefH
import Derived.Test.YtnjfefbeemicaaaDoorWorksA
namespace Go.Proofs.YtnjfefbeemicaaaDoor
open Go.RowKit Go.Shelf

set_option maxRecDepth 100000 in
set_option maxHeartbeats 2000000 in
theorem rg_bad (p : Pl) (a now : Nat) (w : World) (hc : p.chk ≠ 0) (hx : p.x.Wf) : Calls Tryd.prog 19 #[.agg p.cs.toArray, .int .u64 a, .int .u64 now] w fun e w' => AgaC 0 Pl.zero 0 p.chk w e w' := by
  have HC := fun w => rrchk_any p w hx
  unfold RChk at HC
  have HCC := Lib.hid HC
  have f0 : Fr (fun _ => False) w ((w.alloc (.cells p.cs.toArray 28)).alloc (.cells Pl.zero.cs.toArray 28)) := ((Fr.refl _ w).alloc _).alloc _
  have kp := (Bk.new w p.cs 28).al (.cells Pl.zero.cs.toArray 28)
  have kr := Bk.new (w.alloc (.cells p.cs.toArray 28)) Pl.zero.cs 28
  rw [World.size_alloc] at kr
  have t0 : (p.chk != 0) = true := by simpa using hc
  clear hc
  generalize p.chk = c at *
  have a0 := kp.cell 0 rfl
  have a1 := kp.cell 1 rfl
  have a2 := kp.cell 2 rfl
  have a3 := kp.cell 3 rfl
  have a4 := kp.cell 4 rfl
  have a5 := kp.cell 5 rfl
  have a6 := kp.cell 6 rfl
  have a7 := kp.cell 7 rfl
  have a8 := kp.cell 8 rfl
  have a9 := kp.cell 9 rfl
  have a10 := kp.cell 10 rfl
  have a11 := kp.cell 11 rfl
  have a12 := kp.cell 12 rfl
  have HF0 := Lib.hid (And.intro f0 (And.intro kp kr))
  clear HC f0 kp kr hx
  go_enter Tryd.func19, Tryd.ntmps19
  go_wp2_with fail
  refine (HCC.out _).mono ?_
  rintro e w1 ⟨rfl, f1⟩
  have HF := Lib.hid (And.intro (HF0.out.1.tr f1) (And.intro (HF0.out.2.1.fr0 f1) (HF0.out.2.2.fr0 f1)))
  clear f1 a0 a1 a2 a3 a4 a5 a6 a7 a8 a9 a10 a11 a12
  have b0 := HF.out.2.2.cell 0 rfl
  have b1 := HF.out.2.2.cell 1 rfl
  have b2 := HF.out.2.2.cell 2 rfl
  have b3 := HF.out.2.2.cell 3 rfl
  have b4 := HF.out.2.2.cell 4 rfl
  have b5 := HF.out.2.2.cell 5 rfl
  have b6 := HF.out.2.2.cell 6 rfl
  have b7 := HF.out.2.2.cell 7 rfl
  have b8 := HF.out.2.2.cell 8 rfl
  have b9 := HF.out.2.2.cell 9 rfl
  have b10 := HF.out.2.2.cell 10 rfl
  have b11 := HF.out.2.2.cell 11 rfl
  have b12 := HF.out.2.2.cell 12 rfl
  have z0 := HF.out.2.2.free 0
  have z1 := HF.out.2.2.free 1
  have z2 := HF.out.2.2.free 2
  have z3 := HF.out.2.2.free 3
  have z4 := HF.out.2.2.free 4
  have z5 := HF.out.2.2.free 5
  have z6 := HF.out.2.2.free 6
  have z7 := HF.out.2.2.free 7
  have z8 := HF.out.2.2.free 8
  have z9 := HF.out.2.2.free 9
  have z10 := HF.out.2.2.free 10
  have z11 := HF.out.2.2.free 11
  have z12 := HF.out.2.2.free 12
  go_wp2_with fail
  refine bodyPost_ret (results_mid rfl _ _ (w.heap.size + 1) 28 Pl.zero.cs _ rfl (((((((((((((HF.out.2.2.set 0 _).set 1 _).set 2 _).set 3 _).set 4 _).set 5 _).set 6 _).set 7 _).set 8 _).set 9 _).set 10 _).set 11 _).set 12 _) Tryd.underlying28 rfl (by kernel_rfl)) rfl ⟨rfl, ?_⟩
  (repeat' refine Fr.setCell ?_ (.inr (by simp)) _)
  exact HF.out.1
set_option maxRecDepth 100000 in
set_option maxHeartbeats 2000000 in
theorem rg_ends0 (per : Nat) (l : Int) (x : Sp) (a now : Nat) (w : World) (hc : Pl.chk ⟨0, per, l, x⟩ = 0) (hx : x.Wf) : Calls Tryd.prog 19 #[.agg (Pl.cs ⟨0, per, l, x⟩).toArray, .int .u64 a, .int .u64 now] w fun e w' => AgaC 0 Pl.zero 0 5 w e w' := by
  have HC := fun w => rrchk_any ⟨0, per, l, x⟩ w hx
  unfold RChk at HC
  rw [hc] at HC
  have HCC := Lib.hid HC
  have f0 : Fr (fun _ => False) w ((w.alloc (.cells (Pl.cs ⟨0, per, l, x⟩).toArray 28)).alloc (.cells Pl.zero.cs.toArray 28)) := ((Fr.refl _ w).alloc _).alloc _
  have kp := (Bk.new w (Pl.cs ⟨0, per, l, x⟩) 28).al (.cells Pl.zero.cs.toArray 28)
  have kr := Bk.new (w.alloc (.cells (Pl.cs ⟨0, per, l, x⟩).toArray 28)) Pl.zero.cs 28
  rw [World.size_alloc] at kr
  clear hc
  have a0 := kp.cell 0 rfl
  have a1 := kp.cell 1 rfl
  have a2 := kp.cell 2 rfl
  have a3 := kp.cell 3 rfl
  have a4 := kp.cell 4 rfl
  have a5 := kp.cell 5 rfl
  have a6 := kp.cell 6 rfl
  have a7 := kp.cell 7 rfl
  have a8 := kp.cell 8 rfl
  have a9 := kp.cell 9 rfl
  have a10 := kp.cell 10 rfl
  have a11 := kp.cell 11 rfl
  have a12 := kp.cell 12 rfl
  have HF0 := Lib.hid (And.intro f0 (And.intro kp kr))
  clear HC f0 kp kr hx
  go_enter Tryd.func19, Tryd.ntmps19
  go_wp2_with fail
  refine (HCC.out _).mono ?_
  rintro e w1 ⟨rfl, f1⟩
  have HF := Lib.hid (And.intro (HF0.out.1.tr f1) (And.intro (HF0.out.2.1.fr0 f1) (HF0.out.2.2.fr0 f1)))
  clear f1 a0 a1 a2 a3 a4 a5 a6 a7 a8 a9 a10 a11 a12
  have a0 := HF.out.2.1.cell 0 rfl
  have a2 := HF.out.2.1.cell 2 rfl
  have b0 := HF.out.2.2.cell 0 rfl
  have b1 := HF.out.2.2.cell 1 rfl
  have b2 := HF.out.2.2.cell 2 rfl
  have b3 := HF.out.2.2.cell 3 rfl
  have b4 := HF.out.2.2.cell 4 rfl
  have b5 := HF.out.2.2.cell 5 rfl
  have b6 := HF.out.2.2.cell 6 rfl
  have b7 := HF.out.2.2.cell 7 rfl
  have b8 := HF.out.2.2.cell 8 rfl
  have b9 := HF.out.2.2.cell 9 rfl
  have b10 := HF.out.2.2.cell 10 rfl
  have b11 := HF.out.2.2.cell 11 rfl
  have b12 := HF.out.2.2.cell 12 rfl
  have z0 := HF.out.2.2.free 0
  have z1 := HF.out.2.2.free 1
  have z2 := HF.out.2.2.free 2
  have z3 := HF.out.2.2.free 3
  have z4 := HF.out.2.2.free 4
  have z5 := HF.out.2.2.free 5
  have z6 := HF.out.2.2.free 6
  have z7 := HF.out.2.2.free 7
  have z8 := HF.out.2.2.free 8
  have z9 := HF.out.2.2.free 9
  have z10 := HF.out.2.2.free 10
  have z11 := HF.out.2.2.free 11
  have z12 := HF.out.2.2.free 12
  go_wp2_with fail
  refine bodyPost_ret (results_mid rfl _ _ (w.heap.size + 1) 28 Pl.zero.cs _ rfl (((((((((((((HF.out.2.2.set 0 _).set 1 _).set 2 _).set 3 _).set 4 _).set 5 _).set 6 _).set 7 _).set 8 _).set 9 _).set 10 _).set 11 _).set 12 _) Tryd.underlying28 rfl (by kernel_rfl)) rfl ⟨rfl, ?_⟩
  (repeat' refine Fr.setCell ?_ (.inr (by simp)) _)
  exact HF.out.1
set_option maxRecDepth 100000 in
set_option maxHeartbeats 2000000 in
theorem rg_last (per : Nat) (x : Sp) (a now : Nat) (w : World) (hc : Pl.chk ⟨1, per, 1, x⟩ = 0) (hx : x.Wf) : Calls Tryd.prog 19 #[.agg (Pl.cs ⟨1, per, 1, x⟩).toArray, .int .u64 a, .int .u64 now] w fun e w' => AgaC 0 Pl.zero 0 5 w e w' := by
  have HC := fun w => rrchk_any ⟨1, per, 1, x⟩ w hx
  unfold RChk at HC
  rw [hc] at HC
  have HCC := Lib.hid HC
  have f0 : Fr (fun _ => False) w ((w.alloc (.cells (Pl.cs ⟨1, per, 1, x⟩).toArray 28)).alloc (.cells Pl.zero.cs.toArray 28)) := ((Fr.refl _ w).alloc _).alloc _
  have kp := (Bk.new w (Pl.cs ⟨1, per, 1, x⟩) 28).al (.cells Pl.zero.cs.toArray 28)
  have kr := Bk.new (w.alloc (.cells (Pl.cs ⟨1, per, 1, x⟩).toArray 28)) Pl.zero.cs 28
  rw [World.size_alloc] at kr
  clear hc
  have a0 := kp.cell 0 rfl
  have a1 := kp.cell 1 rfl
  have a2 := kp.cell 2 rfl
  have a3 := kp.cell 3 rfl
  have a4 := kp.cell 4 rfl
  have a5 := kp.cell 5 rfl
  have a6 := kp.cell 6 rfl
  have a7 := kp.cell 7 rfl
  have a8 := kp.cell 8 rfl
  have a9 := kp.cell 9 rfl
  have a10 := kp.cell 10 rfl
  have a11 := kp.cell 11 rfl
  have a12 := kp.cell 12 rfl
  have HF0 := Lib.hid (And.intro f0 (And.intro kp kr))
  clear HC f0 kp kr hx
  go_enter Tryd.func19, Tryd.ntmps19
  go_wp2_with fail
  refine (HCC.out _).mono ?_
  rintro e w1 ⟨rfl, f1⟩
  have HF := Lib.hid (And.intro (HF0.out.1.tr f1) (And.intro (HF0.out.2.1.fr0 f1) (HF0.out.2.2.fr0 f1)))
  clear f1 a0 a1 a2 a3 a4 a5 a6 a7 a8 a9 a10 a11 a12
  have a0 := HF.out.2.1.cell 0 rfl
  have a2 := HF.out.2.1.cell 2 rfl
  have b0 := HF.out.2.2.cell 0 rfl
  have b1 := HF.out.2.2.cell 1 rfl
  have b2 := HF.out.2.2.cell 2 rfl
  have b3 := HF.out.2.2.cell 3 rfl
  have b4 := HF.out.2.2.cell 4 rfl
  have b5 := HF.out.2.2.cell 5 rfl
  have b6 := HF.out.2.2.cell 6 rfl
  have b7 := HF.out.2.2.cell 7 rfl
  have b8 := HF.out.2.2.cell 8 rfl
  have b9 := HF.out.2.2.cell 9 rfl
  have b10 := HF.out.2.2.cell 10 rfl
  have b11 := HF.out.2.2.cell 11 rfl
  have b12 := HF.out.2.2.cell 12 rfl
  have z0 := HF.out.2.2.free 0
  have z1 := HF.out.2.2.free 1
  have z2 := HF.out.2.2.free 2
  have z3 := HF.out.2.2.free 3
  have z4 := HF.out.2.2.free 4
  have z5 := HF.out.2.2.free 5
  have z6 := HF.out.2.2.free 6
  have z7 := HF.out.2.2.free 7
  have z8 := HF.out.2.2.free 8
  have z9 := HF.out.2.2.free 9
  have z10 := HF.out.2.2.free 10
  have z11 := HF.out.2.2.free 11
  have z12 := HF.out.2.2.free 12
  go_wp2_with fail
  refine bodyPost_ret (results_mid rfl _ _ (w.heap.size + 1) 28 Pl.zero.cs _ rfl (((((((((((((HF.out.2.2.set 0 _).set 1 _).set 2 _).set 3 _).set 4 _).set 5 _).set 6 _).set 7 _).set 8 _).set 9 _).set 10 _).set 11 _).set 12 _) Tryd.underlying28 rfl (by kernel_rfl)) rfl ⟨rfl, ?_⟩
  (repeat' refine Fr.setCell ?_ (.inr (by simp)) _)
  exact HF.out.1
set_option maxRecDepth 100000 in
set_option maxHeartbeats 2000000 in
theorem rg_never (per : Nat) (l : Int) (x : Sp) (a now : Nat) (w : World) (hc : Pl.chk ⟨1, per, l, x⟩ = 0) (hx : x.Wf) (hl : l ≠ 1) (ha : a = never) : Calls Tryd.prog 19 #[.agg (Pl.cs ⟨1, per, l, x⟩).toArray, .int .u64 a, .int .u64 now] w fun e w' => AgaC 0 Pl.zero 0 5 w e w' := by
  have HC := fun w => rrchk_any ⟨1, per, l, x⟩ w hx
  unfold RChk at HC
  rw [hc] at HC
  have HCC := Lib.hid HC
  have f0 : Fr (fun _ => False) w ((w.alloc (.cells (Pl.cs ⟨1, per, l, x⟩).toArray 28)).alloc (.cells Pl.zero.cs.toArray 28)) := ((Fr.refl _ w).alloc _).alloc _
  have kp := (Bk.new w (Pl.cs ⟨1, per, l, x⟩) 28).al (.cells Pl.zero.cs.toArray 28)
  have kr := Bk.new (w.alloc (.cells (Pl.cs ⟨1, per, l, x⟩).toArray 28)) Pl.zero.cs 28
  rw [World.size_alloc] at kr
  clear hc
  have t1 : (l == 1) = false := by simpa using hl
  have t2 : ((a : Int) == 18446744073709551615) = true := by rw [ha]; rfl
  clear hl ha
  have a0 := kp.cell 0 rfl
  have a1 := kp.cell 1 rfl
  have a2 := kp.cell 2 rfl
  have a3 := kp.cell 3 rfl
  have a4 := kp.cell 4 rfl
  have a5 := kp.cell 5 rfl
  have a6 := kp.cell 6 rfl
  have a7 := kp.cell 7 rfl
  have a8 := kp.cell 8 rfl
  have a9 := kp.cell 9 rfl
  have a10 := kp.cell 10 rfl
  have a11 := kp.cell 11 rfl
  have a12 := kp.cell 12 rfl
  have HF0 := Lib.hid (And.intro f0 (And.intro kp kr))
  clear HC f0 kp kr hx
  go_enter Tryd.func19, Tryd.ntmps19
  go_wp2_with fail
  refine (HCC.out _).mono ?_
  rintro e w1 ⟨rfl, f1⟩
  have HF := Lib.hid (And.intro (HF0.out.1.tr f1) (And.intro (HF0.out.2.1.fr0 f1) (HF0.out.2.2.fr0 f1)))
  clear f1 a0 a1 a2 a3 a4 a5 a6 a7 a8 a9 a10 a11 a12
  have a0 := HF.out.2.1.cell 0 rfl
  have a2 := HF.out.2.1.cell 2 rfl
  have b0 := HF.out.2.2.cell 0 rfl
  have b1 := HF.out.2.2.cell 1 rfl
  have b2 := HF.out.2.2.cell 2 rfl
  have b3 := HF.out.2.2.cell 3 rfl
  have b4 := HF.out.2.2.cell 4 rfl
  have b5 := HF.out.2.2.cell 5 rfl
  have b6 := HF.out.2.2.cell 6 rfl
  have b7 := HF.out.2.2.cell 7 rfl
  have b8 := HF.out.2.2.cell 8 rfl
  have b9 := HF.out.2.2.cell 9 rfl
  have b10 := HF.out.2.2.cell 10 rfl
  have b11 := HF.out.2.2.cell 11 rfl
  have b12 := HF.out.2.2.cell 12 rfl
  have z0 := HF.out.2.2.free 0
  have z1 := HF.out.2.2.free 1
  have z2 := HF.out.2.2.free 2
  have z3 := HF.out.2.2.free 3
  have z4 := HF.out.2.2.free 4
  have z5 := HF.out.2.2.free 5
  have z6 := HF.out.2.2.free 6
  have z7 := HF.out.2.2.free 7
  have z8 := HF.out.2.2.free 8
  have z9 := HF.out.2.2.free 9
  have z10 := HF.out.2.2.free 10
  have z11 := HF.out.2.2.free 11
  have z12 := HF.out.2.2.free 12
  go_wp2_with fail
  refine bodyPost_ret (results_mid rfl _ _ (w.heap.size + 1) 28 Pl.zero.cs _ rfl (((((((((((((HF.out.2.2.set 0 _).set 1 _).set 2 _).set 3 _).set 4 _).set 5 _).set 6 _).set 7 _).set 8 _).set 9 _).set 10 _).set 11 _).set 12 _) Tryd.underlying28 rfl (by kernel_rfl)) rfl ⟨rfl, ?_⟩
  (repeat' refine Fr.setCell ?_ (.inr (by simp)) _)
  exact HF.out.1
set_option maxRecDepth 100000 in
set_option maxHeartbeats 2000000 in
theorem rg_zero (per : Nat) (x : Sp) (a now : Nat) (w : World) (hc : Pl.chk ⟨1, per, 0, x⟩ = 0) (hx : x.Wf) (hv : a ≠ never) (ha : a < 18446744073709551616) (hp : per < 18446744073709551616) (hn : now < 18446744073709551616) : Calls Tryd.prog 19 #[.agg (Pl.cs ⟨1, per, 0, x⟩).toArray, .int .u64 a, .int .u64 now] w fun e w' => AgaC (aftN a per now) ⟨1, per, 0, x⟩ ((now - a) / per : Nat) 0 w e w' := by
  have HC := fun w => rrchk_any ⟨1, per, 0, x⟩ w hx
  unfold RChk at HC
  rw [hc] at HC
  have HCC := Lib.hid HC
  have f0 : Fr (fun _ => False) w ((w.alloc (.cells (Pl.cs ⟨1, per, 0, x⟩).toArray 28)).alloc (.cells Pl.zero.cs.toArray 28)) := ((Fr.refl _ w).alloc _).alloc _
  have kp := (Bk.new w (Pl.cs ⟨1, per, 0, x⟩) 28).al (.cells Pl.zero.cs.toArray 28)
  have kr := Bk.new (w.alloc (.cells (Pl.cs ⟨1, per, 0, x⟩).toArray 28)) Pl.zero.cs 28
  rw [World.size_alloc] at kr
  have t1 : ((0 : Int) == 1) = false := by decide
  have t2 : ((a : Int) == 18446744073709551615) = false := by
    have : (a : Int) ≠ 18446744073709551615 := by unfold never at hv; omega
    simpa using this
  have t3 : decide ((0 : Int) < 0) = false := by decide
  have HA := Lib.hid (fun w => rafter_any a per now w ha hp hn (Pl.chk_every hc).1)
  clear hc hv ha hp hn
  generalize aftN a per now = T at *
  generalize (now - a) / per = M at *
  have a0 := kp.cell 0 rfl
  have a1 := kp.cell 1 rfl
  have a2 := kp.cell 2 rfl
  have a3 := kp.cell 3 rfl
  have a4 := kp.cell 4 rfl
  have a5 := kp.cell 5 rfl
  have a6 := kp.cell 6 rfl
  have a7 := kp.cell 7 rfl
  have a8 := kp.cell 8 rfl
  have a9 := kp.cell 9 rfl
  have a10 := kp.cell 10 rfl
  have a11 := kp.cell 11 rfl
  have a12 := kp.cell 12 rfl
  have HF0 := Lib.hid (And.intro f0 (And.intro kp kr))
  clear HC f0 kp kr hx
  go_enter Tryd.func19, Tryd.ntmps19
  go_wp2_with fail
  refine (HCC.out _).mono ?_
  rintro e w1 ⟨rfl, f1⟩
  have HF := Lib.hid (And.intro (HF0.out.1.tr f1) (And.intro (HF0.out.2.1.fr0 f1) (HF0.out.2.2.fr0 f1)))
  clear f1 a0 a1 a2 a3 a4 a5 a6 a7 a8 a9 a10 a11 a12
  have a0 := HF.out.2.1.cell 0 rfl
  have a1 := HF.out.2.1.cell 1 rfl
  have a2 := HF.out.2.1.cell 2 rfl
  have a3 := HF.out.2.1.cell 3 rfl
  have a4 := HF.out.2.1.cell 4 rfl
  have a5 := HF.out.2.1.cell 5 rfl
  have a6 := HF.out.2.1.cell 6 rfl
  have a7 := HF.out.2.1.cell 7 rfl
  have a8 := HF.out.2.1.cell 8 rfl
  have a9 := HF.out.2.1.cell 9 rfl
  have a10 := HF.out.2.1.cell 10 rfl
  have a11 := HF.out.2.1.cell 11 rfl
  have a12 := HF.out.2.1.cell 12 rfl
  go_wp2_with fail
  refine (HA.out _).mono ?_
  rintro e w2 ⟨rfl, f2⟩
  have HF2 := Lib.hid (And.intro (HF.out.1.tr f2) (And.intro (HF.out.2.1.fr0 f2) (HF.out.2.2.fr0 f2)))
  clear f2 a0 a1 a2 a3 a4 a5 a6 a7 a8 a9 a10 a11 a12
  have a0 := HF2.out.2.1.cell 0 rfl
  have a1 := HF2.out.2.1.cell 1 rfl
  have a2 := HF2.out.2.1.cell 2 rfl
  have a3 := HF2.out.2.1.cell 3 rfl
  have a4 := HF2.out.2.1.cell 4 rfl
  have a5 := HF2.out.2.1.cell 5 rfl
  have a6 := HF2.out.2.1.cell 6 rfl
  have a7 := HF2.out.2.1.cell 7 rfl
  have a8 := HF2.out.2.1.cell 8 rfl
  have a9 := HF2.out.2.1.cell 9 rfl
  have a10 := HF2.out.2.1.cell 10 rfl
  have a11 := HF2.out.2.1.cell 11 rfl
  have a12 := HF2.out.2.1.cell 12 rfl
  have b0 := HF2.out.2.2.cell 0 rfl
  have b1 := HF2.out.2.2.cell 1 rfl
  have b2 := HF2.out.2.2.cell 2 rfl
  have b3 := HF2.out.2.2.cell 3 rfl
  have b4 := HF2.out.2.2.cell 4 rfl
  have b5 := HF2.out.2.2.cell 5 rfl
  have b6 := HF2.out.2.2.cell 6 rfl
  have b7 := HF2.out.2.2.cell 7 rfl
  have b8 := HF2.out.2.2.cell 8 rfl
  have b9 := HF2.out.2.2.cell 9 rfl
  have b10 := HF2.out.2.2.cell 10 rfl
  have b11 := HF2.out.2.2.cell 11 rfl
  have b12 := HF2.out.2.2.cell 12 rfl
  have z0 := HF2.out.2.2.free 0
  have z1 := HF2.out.2.2.free 1
  have z2 := HF2.out.2.2.free 2
  have z3 := HF2.out.2.2.free 3
  have z4 := HF2.out.2.2.free 4
  have z5 := HF2.out.2.2.free 5
  have z6 := HF2.out.2.2.free 6
  have z7 := HF2.out.2.2.free 7
  have z8 := HF2.out.2.2.free 8
  have z9 := HF2.out.2.2.free 9
  have z10 := HF2.out.2.2.free 10
  have z11 := HF2.out.2.2.free 11
  have z12 := HF2.out.2.2.free 12
  have hlt := HF2.out.2.2.lt
  go_wp2_with fail
  go_region
  all_goals go_wp2_with fail
  all_goals
    refine bodyPost_ret (results_mid rfl _ _ (w.heap.size + 1) 28 (Pl.cs ⟨1, per, 0, x⟩) _ rfl (Bk.drew (((((((((((((HF2.out.2.2.set 0 _).set 1 _).set 2 _).set 3 _).set 4 _).set 5 _).set 6 _).set 7 _).set 8 _).set 9 _).set 10 _).set 11 _).set 12 _)) Tryd.underlying28 rfl (by kernel_rfl)) rfl ⟨rfl, ?_⟩
    refine Fr.drew ?_
    (repeat' refine Fr.setCell ?_ (.inr (by simp)) _)
    exact HF2.out.1
set_option maxRecDepth 100000 in
set_option maxHeartbeats 2000000 in
theorem rg_more (per : Nat) (l : Int) (x : Sp) (a now : Nat) (w : World) (hc : Pl.chk ⟨1, per, l, x⟩ = 0) (hx : x.Wf) (hl1 : l ≠ 1) (hl0 : 0 < l) (hl2 : l ≤ 9223372036854775807) (hv : a ≠ never) (ha : a < 18446744073709551616) (hp : per < 18446744073709551616) (hn : now < 18446744073709551616) : Calls Tryd.prog 19 #[.agg (Pl.cs ⟨1, per, l, x⟩).toArray, .int .u64 a, .int .u64 now] w fun e w' => AgaC (aftN a per now) ⟨1, per, l - 1, x⟩ ((now - a) / per : Nat) 0 w e w' := by
  have HC := fun w => rrchk_any ⟨1, per, l, x⟩ w hx
  unfold RChk at HC
  rw [hc] at HC
  have HCC := Lib.hid HC
  have f0 : Fr (fun _ => False) w ((w.alloc (.cells (Pl.cs ⟨1, per, l, x⟩).toArray 28)).alloc (.cells Pl.zero.cs.toArray 28)) := ((Fr.refl _ w).alloc _).alloc _
  have kp := (Bk.new w (Pl.cs ⟨1, per, l, x⟩) 28).al (.cells Pl.zero.cs.toArray 28)
  have kr := Bk.new (w.alloc (.cells (Pl.cs ⟨1, per, l, x⟩).toArray 28)) Pl.zero.cs 28
  rw [World.size_alloc] at kr
  have t1 : (l == 1) = false := by simpa using hl1
  have t2 : ((a : Int) == 18446744073709551615) = false := by
    have : (a : Int) ≠ 18446744073709551615 := by unfold never at hv; omega
    simpa using this
  have t3 : decide (0 < l) = true := by simp; omega
  have e3 : IntKind.i64.wrap (l - 1) = l - 1 := IntWalk.i64_in _ (by omega)
  have HA := Lib.hid (fun w => rafter_any a per now w ha hp hn (Pl.chk_every hc).1)
  clear hc hv ha hp hn hl1 hl0 hl2
  generalize aftN a per now = T at *
  generalize (now - a) / per = M at *
  have a0 := kp.cell 0 rfl
  have a1 := kp.cell 1 rfl
  have a2 := kp.cell 2 rfl
  have a3 := kp.cell 3 rfl
  have a4 := kp.cell 4 rfl
  have a5 := kp.cell 5 rfl
  have a6 := kp.cell 6 rfl
  have a7 := kp.cell 7 rfl
  have a8 := kp.cell 8 rfl
  have a9 := kp.cell 9 rfl
  have a10 := kp.cell 10 rfl
  have a11 := kp.cell 11 rfl
  have a12 := kp.cell 12 rfl
  have HF0 := Lib.hid (And.intro f0 (And.intro kp kr))
  clear HC f0 kp kr hx
  go_enter Tryd.func19, Tryd.ntmps19
  go_wp2_with fail
  refine (HCC.out _).mono ?_
  rintro e w1 ⟨rfl, f1⟩
  have HF := Lib.hid (And.intro (HF0.out.1.tr f1) (And.intro (HF0.out.2.1.fr0 f1) (HF0.out.2.2.fr0 f1)))
  clear f1 a0 a1 a2 a3 a4 a5 a6 a7 a8 a9 a10 a11 a12
  have a0 := HF.out.2.1.cell 0 rfl
  have a1 := HF.out.2.1.cell 1 rfl
  have a2 := HF.out.2.1.cell 2 rfl
  have a3 := HF.out.2.1.cell 3 rfl
  have a4 := HF.out.2.1.cell 4 rfl
  have a5 := HF.out.2.1.cell 5 rfl
  have a6 := HF.out.2.1.cell 6 rfl
  have a7 := HF.out.2.1.cell 7 rfl
  have a8 := HF.out.2.1.cell 8 rfl
  have a9 := HF.out.2.1.cell 9 rfl
  have a10 := HF.out.2.1.cell 10 rfl
  have a11 := HF.out.2.1.cell 11 rfl
  have a12 := HF.out.2.1.cell 12 rfl
  go_wp2_with fail
  refine (HA.out _).mono ?_
  rintro e w2 ⟨rfl, f2⟩
  have HF2 := Lib.hid (And.intro (HF.out.1.tr f2) (And.intro (HF.out.2.1.fr0 f2) (HF.out.2.2.fr0 f2)))
  clear f2 a0 a1 a2 a3 a4 a5 a6 a7 a8 a9 a10 a11 a12
  have a0 := HF2.out.2.1.cell 0 rfl
  have a1 := HF2.out.2.1.cell 1 rfl
  have a2 := HF2.out.2.1.cell 2 rfl
  have a3 := HF2.out.2.1.cell 3 rfl
  have a4 := HF2.out.2.1.cell 4 rfl
  have a5 := HF2.out.2.1.cell 5 rfl
  have a6 := HF2.out.2.1.cell 6 rfl
  have a7 := HF2.out.2.1.cell 7 rfl
  have a8 := HF2.out.2.1.cell 8 rfl
  have a9 := HF2.out.2.1.cell 9 rfl
  have a10 := HF2.out.2.1.cell 10 rfl
  have a11 := HF2.out.2.1.cell 11 rfl
  have a12 := HF2.out.2.1.cell 12 rfl
  have b0 := HF2.out.2.2.cell 0 rfl
  have b1 := HF2.out.2.2.cell 1 rfl
  have b2 := HF2.out.2.2.cell 2 rfl
  have b3 := HF2.out.2.2.cell 3 rfl
  have b4 := HF2.out.2.2.cell 4 rfl
  have b5 := HF2.out.2.2.cell 5 rfl
  have b6 := HF2.out.2.2.cell 6 rfl
  have b7 := HF2.out.2.2.cell 7 rfl
  have b8 := HF2.out.2.2.cell 8 rfl
  have b9 := HF2.out.2.2.cell 9 rfl
  have b10 := HF2.out.2.2.cell 10 rfl
  have b11 := HF2.out.2.2.cell 11 rfl
  have b12 := HF2.out.2.2.cell 12 rfl
  have z0 := HF2.out.2.2.free 0
  have z1 := HF2.out.2.2.free 1
  have z2 := HF2.out.2.2.free 2
  have z3 := HF2.out.2.2.free 3
  have z4 := HF2.out.2.2.free 4
  have z5 := HF2.out.2.2.free 5
  have z6 := HF2.out.2.2.free 6
  have z7 := HF2.out.2.2.free 7
  have z8 := HF2.out.2.2.free 8
  have z9 := HF2.out.2.2.free 9
  have z10 := HF2.out.2.2.free 10
  have z11 := HF2.out.2.2.free 11
  have z12 := HF2.out.2.2.free 12
  have y2 := HF2.out.2.1.free 2
  have hlt := HF2.out.2.2.lt
  go_wp2_with fail
  go_region
  all_goals go_wp2_with fail
  all_goals
    refine bodyPost_ret (results_mid rfl _ _ (w.heap.size + 1) 28 (Pl.cs ⟨1, per, l - 1, x⟩) _ rfl (Bk.drew ((((((((((((((HF2.out.2.2.far (by simp) _).set 0 _).set 1 _).set 2 _).set 3 _).set 4 _).set 5 _).set 6 _).set 7 _).set 8 _).set 9 _).set 10 _).set 11 _).set 12 _)) Tryd.underlying28 rfl (by kernel_rfl)) rfl ⟨rfl, ?_⟩
    refine Fr.drew ?_
    (repeat' refine Fr.setCell ?_ (.inr (by simp)) _)
    exact HF2.out.1
set_option maxRecDepth 100000 in
set_option maxHeartbeats 2000000 in
theorem rg_cron (per : Nat) (l : Int) (x : Sp) (a now : Nat) (w : World) (hc : Pl.chk ⟨2, per, l, x⟩ = 0) (hx : x.Wf) (hn : now < 18446744073709551616) : Calls Tryd.prog 19 #[.agg (Pl.cs ⟨2, per, l, x⟩).toArray, .int .u64 a, .int .u64 now] w fun e w' => ∃ r k, NextIs x (now / 60 + 1) r k ∧ AgaC (if k = 0 then r * 60 else 0) (if k = 0 then ⟨2, per, l, x⟩ else Pl.zero) 0 k w e w' := by
  have HC := fun w => rrchk_any ⟨2, per, l, x⟩ w hx
  unfold RChk at HC
  rw [hc] at HC
  have HCC := Lib.hid HC
  have f0 : Fr (fun _ => False) w ((w.alloc (.cells (Pl.cs ⟨2, per, l, x⟩).toArray 28)).alloc (.cells Pl.zero.cs.toArray 28)) := ((Fr.refl _ w).alloc _).alloc _
  have kp := (Bk.new w (Pl.cs ⟨2, per, l, x⟩) 28).al (.cells Pl.zero.cs.toArray 28)
  have kr := Bk.new (w.alloc (.cells (Pl.cs ⟨2, per, l, x⟩).toArray 28)) Pl.zero.cs 28
  rw [World.size_alloc] at kr
  have HFI := Lib.hid (fun w => rf_next per now 0 l x w hc hx hn)
  have HK := Lib.hid hc
  have a0 := kp.cell 0 rfl
  have a1 := kp.cell 1 rfl
  have a2 := kp.cell 2 rfl
  have a3 := kp.cell 3 rfl
  have a4 := kp.cell 4 rfl
  have a5 := kp.cell 5 rfl
  have a6 := kp.cell 6 rfl
  have a7 := kp.cell 7 rfl
  have a8 := kp.cell 8 rfl
  have a9 := kp.cell 9 rfl
  have a10 := kp.cell 10 rfl
  have a11 := kp.cell 11 rfl
  have a12 := kp.cell 12 rfl
  have HF0 := Lib.hid (And.intro f0 (And.intro kp kr))
  clear HC f0 kp kr hx hc hn
  go_enter Tryd.func19, Tryd.ntmps19
  go_wp2_with fail
  refine (HCC.out _).mono ?_
  rintro e w1 ⟨rfl, f1⟩
  have HF := Lib.hid (And.intro (HF0.out.1.tr f1) (And.intro (HF0.out.2.1.fr0 f1) (HF0.out.2.2.fr0 f1)))
  clear f1 a0 a1 a2 a3 a4 a5 a6 a7 a8 a9 a10 a11 a12
  have a0 := HF.out.2.1.cell 0 rfl
  have a1 := HF.out.2.1.cell 1 rfl
  have a2 := HF.out.2.1.cell 2 rfl
  have a3 := HF.out.2.1.cell 3 rfl
  have a4 := HF.out.2.1.cell 4 rfl
  have a5 := HF.out.2.1.cell 5 rfl
  have a6 := HF.out.2.1.cell 6 rfl
  have a7 := HF.out.2.1.cell 7 rfl
  have a8 := HF.out.2.1.cell 8 rfl
  have a9 := HF.out.2.1.cell 9 rfl
  have a10 := HF.out.2.1.cell 10 rfl
  have a11 := HF.out.2.1.cell 11 rfl
  have a12 := HF.out.2.1.cell 12 rfl
  go_wp2_with fail
  refine (HFI.out _).mono ?_
  rintro e w2 ⟨t, k, rfl, f2, _, _, hr⟩
  obtain ⟨r, rfl, hN⟩ := hr HK.out rfl
  have HN := Lib.hid hN
  have HF2 := Lib.hid (And.intro (HF.out.1.tr f2) (And.intro (HF.out.2.1.fr0 f2) (HF.out.2.2.fr0 f2)))
  clear f2 a0 a1 a2 a3 a4 a5 a6 a7 a8 a9 a10 a11 a12
  have a0 := HF2.out.2.1.cell 0 rfl
  have a1 := HF2.out.2.1.cell 1 rfl
  have a2 := HF2.out.2.1.cell 2 rfl
  have a3 := HF2.out.2.1.cell 3 rfl
  have a4 := HF2.out.2.1.cell 4 rfl
  have a5 := HF2.out.2.1.cell 5 rfl
  have a6 := HF2.out.2.1.cell 6 rfl
  have a7 := HF2.out.2.1.cell 7 rfl
  have a8 := HF2.out.2.1.cell 8 rfl
  have a9 := HF2.out.2.1.cell 9 rfl
  have a10 := HF2.out.2.1.cell 10 rfl
  have a11 := HF2.out.2.1.cell 11 rfl
  have a12 := HF2.out.2.1.cell 12 rfl
  have b0 := HF2.out.2.2.cell 0 rfl
  have b1 := HF2.out.2.2.cell 1 rfl
  have b2 := HF2.out.2.2.cell 2 rfl
  have b3 := HF2.out.2.2.cell 3 rfl
  have b4 := HF2.out.2.2.cell 4 rfl
  have b5 := HF2.out.2.2.cell 5 rfl
  have b6 := HF2.out.2.2.cell 6 rfl
  have b7 := HF2.out.2.2.cell 7 rfl
  have b8 := HF2.out.2.2.cell 8 rfl
  have b9 := HF2.out.2.2.cell 9 rfl
  have b10 := HF2.out.2.2.cell 10 rfl
  have b11 := HF2.out.2.2.cell 11 rfl
  have b12 := HF2.out.2.2.cell 12 rfl
  have z0 := HF2.out.2.2.free 0
  have z1 := HF2.out.2.2.free 1
  have z2 := HF2.out.2.2.free 2
  have z3 := HF2.out.2.2.free 3
  have z4 := HF2.out.2.2.free 4
  have z5 := HF2.out.2.2.free 5
  have z6 := HF2.out.2.2.free 6
  have z7 := HF2.out.2.2.free 7
  have z8 := HF2.out.2.2.free 8
  have z9 := HF2.out.2.2.free 9
  have z10 := HF2.out.2.2.free 10
  have z11 := HF2.out.2.2.free 11
  have z12 := HF2.out.2.2.free 12
  have hlt := HF2.out.2.2.lt
  rcases hN.cases with ⟨rfl, n, rfl, hn⟩ | ⟨rfl, rfl⟩
  · clear hN hn
    go_wp2_with fail
    go_region
    all_goals go_wp2_with fail
    all_goals
      refine bodyPost_ret (results_mid rfl _ _ (w.heap.size + 1) 28 (Pl.cs ⟨2, per, l, x⟩) _ rfl (Bk.drew (((((((((((((HF2.out.2.2.set 0 _).set 1 _).set 2 _).set 3 _).set 4 _).set 5 _).set 6 _).set 7 _).set 8 _).set 9 _).set 10 _).set 11 _).set 12 _)) Tryd.underlying28 rfl (by kernel_rfl)) rfl ⟨n, 0, HN.out, rfl, ?_⟩
      refine Fr.drew ?_
      (repeat' refine Fr.setCell ?_ (.inr (by simp)) _)
      exact HF2.out.1
  · clear hN
    go_wp2_with fail
    refine bodyPost_ret (results_mid rfl _ _ (w.heap.size + 1) 28 Pl.zero.cs _ rfl (((((((((((((HF2.out.2.2.set 0 _).set 1 _).set 2 _).set 3 _).set 4 _).set 5 _).set 6 _).set 7 _).set 8 _).set 9 _).set 10 _).set 11 _).set 12 _) Tryd.underlying28 rfl (by kernel_rfl)) rfl ⟨0, 11, HN.out, rfl, ?_⟩
    (repeat' refine Fr.setCell ?_ (.inr (by simp)) _)
    exact HF2.out.1
theorem rrag_any (p : Pl) (a now : Nat) (w : World) (ha : a < 18446744073709551616) (hn : now < 18446744073709551616) (hp : p.period < 18446744073709551616) (hl : p.left ≤ 9223372036854775807) (hx : p.x.Wf) :
    Calls Tryd.prog 19 #[.agg p.cs.toArray, .int .u64 a, .int .u64 now] w fun e w' => ∃ t q m k, AgaR p a now t q m k ∧ AgaC t q m k w e w' := by
  by_cases hc : p.chk = 0
  · obtain ⟨k, per, l, x⟩ := p
    have hk : ¬ (k < 0 ∨ 2 < k) := fun h => by unfold Pl.chk at hc; rw [if_pos h] at hc; omega
    rcases (by omega : k = 0 ∨ k = 1 ∨ k = 2) with rfl | rfl | rfl
    · exact (rg_ends0 per l x a now w hc hx).mono fun e w' h => ⟨_, _, _, _, .inr (.inl ⟨hc, .inl rfl, rfl, rfl, rfl, rfl⟩), h⟩
    · have h1 := Pl.chk_every hc
      by_cases hl1 : l = 1
      · subst hl1
        exact (rg_last per x a now w hc hx).mono fun e w' h => ⟨_, _, _, _, .inr (.inl ⟨hc, .inr ⟨rfl, .inl rfl⟩, rfl, rfl, rfl, rfl⟩), h⟩
      · by_cases hv : a = never
        · exact (rg_never per l x a now w hc hx hl1 hv).mono fun e w' h => ⟨_, _, _, _, .inr (.inl ⟨hc, .inr ⟨rfl, .inr hv⟩, rfl, rfl, rfl, rfl⟩), h⟩
        · by_cases hz : l = 0
          · subst hz
            exact (rg_zero per x a now w hc hx hv ha hp hn).mono fun e w' h => ⟨_, _, _, _, .inr (.inr (.inl ⟨hc, rfl, hl1, hv, rfl, rfl, rfl, rfl⟩)), h⟩
          · refine (rg_more per l x a now w hc hx hl1 (by omega) hl hv ha hp hn).mono fun e w' h => ⟨_, _, _, _, .inr (.inr (.inl ⟨hc, rfl, hl1, hv, rfl, ?_, rfl, rfl⟩)), h⟩
            have : lessL l = l - 1 := by unfold lessL; rw [if_neg hz]
            show _ = (⟨1, per, lessL l, x⟩ : Pl)
            rw [this]
    · exact (rg_cron per l x a now w hc hx hn).mono fun e w' ⟨r, k, h1, h2⟩ => ⟨_, _, _, _, .inr (.inr (.inr ⟨hc, rfl, r, h1, rfl, rfl, rfl⟩)), h2⟩
  · exact (rg_bad p a now w hc hx).mono fun e w' h => ⟨_, _, _, _, .inl ⟨hc, rfl, rfl, rfl, rfl⟩, h⟩
end Go.Proofs.YtnjfefbeemicaaaDoor
