/-
  rearm: when a plan fires again.
-/
import Derived.Test.YtnjfefbeemicaaaDoorRearmB
namespace Go.Proofs.YtnjfefbeemicaaaDoor
open Go.RowKit Go.Shelf

def Pl.zero : Pl := ⟨0, 0, 0, Sp.zero⟩
/-- The cells of rearm's own answer: when, by which plan, how often missed. -/
abbrev agCs (t : Int) (p : Pl) (m : Int) : List Value := [.int .u64 t, .int .i64 p.kind, .int .u64 p.period, .int .i64 p.left, .int .u64 p.x.mi, .bool p.x.s0, .int .u64 p.x.ho, .bool p.x.s1, .int .u64 p.x.da, .bool p.x.s2, .int .u64 p.x.mo, .bool p.x.s3, .int .u64 p.x.we, .bool p.x.s4, .int .u64 m]
def AgC (t : Int) (p : Pl) (m k : Int) (w : World) (e : Ending) (w' : World) : Prop := e = .returned (.tuple #[.agg (agCs t p m).toArray, .int .i64 k]) ∧ Fr (fun _ => False) w w'
set_option maxRecDepth 100000 in
theorem ends_any (p : Pl) (a now : Nat) (w : World) : Calls Tryd.prog 37 #[.agg p.cs.toArray, .int .u64 a, .int .u64 now] w fun e w' => AgC 0 Pl.zero 0 5 w e w' := by
  go_enter Tryd.func37, Tryd.ntmps37
  go_wp2_with fail
  refine bodyPost_ret (results_row_tmp rfl _ _ (w.heap.size + 1) 68 (agCs 0 Pl.zero 0) _ rfl (by have := Bk.new (w.alloc (.cells p.cs.toArray 58)) (agCs 0 Pl.zero 0) 68; rwa [World.size_alloc] at this) Tryd.underlying68 rfl (by kernel_rfl)) rfl ⟨rfl, ?_⟩
  exact ((Fr.refl _ w).alloc _).alloc _
def never : Nat := 18446744073709551615
set_option maxRecDepth 100000 in
theorem goes_last (per a now : Nat) (k : Int) (x : Sp) (w : World) : Calls Tryd.prog 38 #[.agg (Pl.cs ⟨k, per, 1, x⟩).toArray, .int .u64 a, .int .u64 now] w fun e w' => AgC 0 Pl.zero 0 5 w e w' := by
  go_enter Tryd.func38, Tryd.ntmps38
  go_wp2_with fail
  refine bodyPost_ret (results_row_tmp rfl _ _ (w.heap.size + 1) 68 (agCs 0 Pl.zero 0) _ rfl (by have := Bk.new (w.alloc (.cells (Pl.cs ⟨k, per, 1, x⟩).toArray 58)) (agCs 0 Pl.zero 0) 68; rwa [World.size_alloc] at this) Tryd.underlying68 rfl (by kernel_rfl)) rfl ⟨rfl, ?_⟩
  exact ((Fr.refl _ w).alloc _).alloc _
set_option maxRecDepth 100000 in
theorem goes_never (per a now : Nat) (k l : Int) (x : Sp) (w : World) (hl : l ≠ 1) (ha : a = never) : Calls Tryd.prog 38 #[.agg (Pl.cs ⟨k, per, l, x⟩).toArray, .int .u64 a, .int .u64 now] w fun e w' => AgC 0 Pl.zero 0 5 w e w' := by
  have t0 : (l == 1) = false := by simpa using hl
  have t1 : ((a : Int) == 18446744073709551615) = true := by rw [ha]; rfl
  clear ha hl
  go_enter Tryd.func38, Tryd.ntmps38
  go_wp2_with fail
  refine bodyPost_ret (results_row_tmp rfl _ _ (w.heap.size + 1) 68 (agCs 0 Pl.zero 0) _ rfl (by have := Bk.new (w.alloc (.cells (Pl.cs ⟨k, per, l, x⟩).toArray 58)) (agCs 0 Pl.zero 0) 68; rwa [World.size_alloc] at this) Tryd.underlying68 rfl (by kernel_rfl)) rfl ⟨rfl, ?_⟩
  exact ((Fr.refl _ w).alloc _).alloc _
/-- How many are left. -/
def lessL (l : Int) : Int := if l = 0 then 0 else l - 1
set_option maxRecDepth 100000 in
set_option maxHeartbeats 1000000 in
theorem goes_on (per a now : Nat) (k l : Int) (x : Sp) (w : World) (hl : l ≠ 1) (h0 : 0 ≤ l) (h1 : l ≤ 9223372036854775807) (ha : a ≠ never) (h2 : a < 18446744073709551616) (h3 : now < 18446744073709551616) (h4 : per < 18446744073709551616) (h5 : per ≠ 0) : Calls Tryd.prog 38 #[.agg (Pl.cs ⟨k, per, l, x⟩).toArray, .int .u64 a, .int .u64 now] w fun e w' => AgC (aftN a per now) ⟨k, per, lessL l, x⟩ ((now - a) / per : Nat) 0 w e w' := by
  have HT := Lib.hid (fun w => tafter_any a per now w h2 h4 h3 h5)
  have t0 : (l == 1) = false := by simpa using hl
  have t1 : ((a : Int) == 18446744073709551615) = false := by
    have : (a : Int) ≠ 18446744073709551615 := by unfold never at ha; omega
    simpa using this
  clear ha h2 h3 h4 h5
  generalize aftN a per now = T at *
  generalize (now - a) / per = M at *
  by_cases hz : l = 0
  · subst hz
    rw [show lessL 0 = 0 from rfl]
    clear hl h0 h1
    go_enter Tryd.func38, Tryd.ntmps38
    go_wp2_with fail
    refine (HT.out _).mono ?_
    rintro e w1 ⟨rfl, hw⟩
    subst hw
    go_wp2_with fail
    refine bodyPost_ret (results_row_tmp rfl _ _ (w.heap.size + 1) 68 (agCs T ⟨k, per, 0, x⟩ M) _ rfl (by have := Bk.new (w.alloc (.cells (Pl.cs ⟨k, per, 0, x⟩).toArray 58)) (agCs T ⟨k, per, 0, x⟩ M) 68; rwa [World.size_alloc] at this) Tryd.underlying68 rfl (by kernel_rfl)) rfl ⟨rfl, ?_⟩
    exact ((Fr.refl _ w).alloc _).alloc _
  · have e1 : lessL l = l - 1 := by unfold lessL; rw [if_neg hz]
    rw [e1]
    have b1 : 0 ≤ l - 1 := by omega
    have b2 : l - 1 ≤ 9223372036854775807 := by omega
    have b3 : ¬ (l - 1 < 0) := by omega
    clear e1 hl hz
    go_enter Tryd.func38, Tryd.ntmps38
    go_wp2_with fail
    refine (HT.out _).mono ?_
    rintro e w1 ⟨rfl, hw⟩
    subst hw
    go_wp2_with fail
    refine bodyPost_ret (results_row_tmp rfl _ _ (w.heap.size + 1) 68 (agCs T ⟨k, per, l - 1, x⟩ M) _ rfl (by have := Bk.new (w.alloc (.cells (Pl.cs ⟨k, per, l - 1, x⟩).toArray 58)) (agCs T ⟨k, per, l - 1, x⟩ M) 68; rwa [World.size_alloc] at this) Tryd.underlying68 rfl (by kernel_rfl)) rfl ⟨rfl, ?_⟩
    exact ((Fr.refl _ w).alloc _).alloc _
def MeetC (p : Pl) (now : Nat) (w : World) (e : Ending) (w' : World) : Prop := ∃ r k, NextIs p.x (now / 60 + 1) r k ∧ AgC (if k = 0 then r * 60 else 0) (if k = 0 then p else Pl.zero) 0 k w e w'
set_option maxRecDepth 100000 in
set_option maxHeartbeats 1000000 in
theorem meets_any (p : Pl) (a now : Nat) (w : World) (hn : now < 18446744073709551616) (hx : p.x.Wf) (hok : p.x.ok = true) (hT : TB w) : Calls Tryd.prog 39 #[.agg p.cs.toArray, .int .u64 a, .int .u64 now] w fun e w' => MeetC p now w e w' := by
  have HM := Lib.hid (fun w hT => matched_any p now 0 w hn hx hok hT)
  have f0 : Fr (fun _ => False) w ((w.alloc (.cells p.cs.toArray 58)).alloc (.cells (agCs 0 Pl.zero 0).toArray 68)) := ((Fr.refl _ w).alloc _).alloc _
  have kp := (Bk.new w p.cs 58).al (.cells (agCs 0 Pl.zero 0).toArray 68)
  have kr := Bk.new (w.alloc (.cells p.cs.toArray 58)) (agCs 0 Pl.zero 0) 68
  rw [World.size_alloc] at kr
  have HT := Lib.hid (hT.fr f0)
  have HK := Lib.hid (And.intro f0 (And.intro kp kr))
  clear hn hx hok hT f0 kp kr
  go_enter Tryd.func39, Tryd.ntmps39
  go_wp2_with fail
  refine (HM.out _ HT.out).mono ?_
  rintro e w1 ⟨r, k, rfl, hr, f1⟩
  obtain ⟨hr0, hr1⟩ := hr.bounds
  have kp1 := HK.out.2.1.fr0 f1
  have kr1 := HK.out.2.2.fr0 f1
  have a0 := kp1.cell 0 rfl
  have a1 := kp1.cell 1 rfl
  have a2 := kp1.cell 2 rfl
  have a3 := kp1.cell 3 rfl
  have a4 := kp1.cell 4 rfl
  have a5 := kp1.cell 5 rfl
  have a6 := kp1.cell 6 rfl
  have a7 := kp1.cell 7 rfl
  have a8 := kp1.cell 8 rfl
  have a9 := kp1.cell 9 rfl
  have a10 := kp1.cell 10 rfl
  have a11 := kp1.cell 11 rfl
  have a12 := kp1.cell 12 rfl
  have b0 := kr1.cell 0 rfl
  have b1 := kr1.cell 1 rfl
  have b2 := kr1.cell 2 rfl
  have b3 := kr1.cell 3 rfl
  have b4 := kr1.cell 4 rfl
  have b5 := kr1.cell 5 rfl
  have b6 := kr1.cell 6 rfl
  have b7 := kr1.cell 7 rfl
  have b8 := kr1.cell 8 rfl
  have b9 := kr1.cell 9 rfl
  have b10 := kr1.cell 10 rfl
  have b11 := kr1.cell 11 rfl
  have b12 := kr1.cell 12 rfl
  have b13 := kr1.cell 13 rfl
  have b14 := kr1.cell 14 rfl
  have z0 := kr1.free 0
  have z1 := kr1.free 1
  have z2 := kr1.free 2
  have z3 := kr1.free 3
  have z4 := kr1.free 4
  have z5 := kr1.free 5
  have z6 := kr1.free 6
  have z7 := kr1.free 7
  have z8 := kr1.free 8
  have z9 := kr1.free 9
  have z10 := kr1.free 10
  have z11 := kr1.free 11
  have z12 := kr1.free 12
  have z13 := kr1.free 13
  have z14 := kr1.free 14
  have hlt := kp1.lt
  have HR := Lib.hid (And.intro hr (And.intro (HK.out.1.tr f1) kr1))
  clear hr f1 kp1 kr1
  have hrk : k = 0 ∨ k = 11 := by rcases HR.out.1 with h | h <;> omega
  rcases hrk with rfl | rfl
  · go_wp2_with fail
    refine bodyPost_ret (results_row_tmp rfl _ _ (w.heap.size + 1) 68 (agCs (r * 60) p 0) _ rfl (((((((((((((((HR.out.2.2.set 0 _).set 1 _).set 2 _).set 3 _).set 4 _).set 5 _).set 6 _).set 7 _).set 8 _).set 9 _).set 10 _).set 11 _).set 12 _).set 13 _).set 14 _) Tryd.underlying68 rfl (by kernel_rfl)) rfl ⟨r, 0, HR.out.1, rfl, ?_⟩
    (repeat' refine Fr.setCell ?_ (.inr (by simp)) _)
    exact HR.out.2.1
  · go_wp2_with fail
    refine bodyPost_ret (results_row_tmp rfl _ _ (w.heap.size + 1) 68 (agCs (0) Pl.zero 0) _ rfl (((((((((((((((HR.out.2.2.set 0 _).set 1 _).set 2 _).set 3 _).set 4 _).set 5 _).set 6 _).set 7 _).set 8 _).set 9 _).set 10 _).set 11 _).set 12 _).set 13 _).set 14 _) Tryd.underlying68 rfl (by kernel_rfl)) rfl ⟨r, 11, HR.out.1, rfl, ?_⟩
    (repeat' refine Fr.setCell ?_ (.inr (by simp)) _)
    exact HR.out.2.1
end Go.Proofs.YtnjfefbeemicaaaDoor
