/-
  civil.Of: a minute, by the calendar.
-/
import Derived.Test.YtnjfefbeemicaaaDoorCivB
import Derived.Laws.Rows
import Derived.Laws.ResultCell
namespace Go.Proofs.YtnjfefbeemicaaaDoor
open Go.RowKit Go.Shelf

theorem results_row_tmp {P : Program} {fn : Func} {p u : Tmp} {ty : TypeId} (h : fn.results = #[.cell p ty, .tmp u]) (tmps : Array Value) (w : World) (g : Nat) (t : TypeId) (cs : List Value) (d : TypeDesc)
    (hp : tmps.getD p undef = .pointer (some ⟨g, 0, none⟩)) (hg : Bk w g t cs)
    (hu : P.underlying ty = some d) (hd : (match d with | .struct _ | .array _ _ => true | _ => false) = true) (hi : (P.info? ty).map (·.size) = some cs.toArray.size) :
    (results fn tmps).run P w = .ok (.tuple #[.agg cs.toArray, tmps.getD u undef]) w := by
  rw [results_cell_tmp h, hp]
  simp [asAddr, run_loadVar_row w g t ty cs.toArray (0, 0) d hg hu hd hi]
/-- A minute's date. -/
def OfOk (n : Nat) (w : World) (e : Ending) (w' : World) : Prop := ∃ y m d : Nat, e = .returned (.tuple #[.agg #[.int .i64 y, .int .i64 m, .int .i64 d, .int .i64 ((n / 60 % 24 : Nat)), .int .i64 ((n % 60 : Nat)), .int .i64 (((n / 1440 + 4) % 7 : Nat))], .int .i64 0]) ∧ IsDate (n / 1440) y m d ∧ y ≤ 2999 ∧ Fr (fun _ => False) w w'
set_option maxRecDepth 8000 in
set_option maxHeartbeats 2000000 in
theorem of_ok (n : Nat) (w : World) (h : n ≤ 541727999) : Calls Tryd.prog 42 #[.int .i64 n] w fun e w' => OfOk n w e w' := by
  have t1 : decide ((n : Int) < 0) = false := by simp
  have t2 : decide (541727999 < n) = false := by simpa using h
  have t3 : decide ((541727999 : Int) < n) = false := by simp; omega
  have HD := Lib.hid (fun w => date_ok (n / 1440) w (by omega))
  have HW := Lib.hid (fun w => week_ok (n / 1440) w (by omega))
  go_enter Tryd.func42, Tryd.ntmps42
  go_wp2_with (first | (go_at_call 46; refine (HD.out _).mono ?_; rintro e w1 ⟨y, m, d, rfl, hd, hy, f1⟩; have kb := (Bk.new w [.int .i64 0, .int .i64 0, .int .i64 0, .int .i64 0, .int .i64 0, .int .i64 0] 74).fr0 f1; have b0 := kb.cell 0 rfl; have z0 := kb.free 0; have b1 := kb.cell 1 rfl; have z1 := kb.free 1; have b2 := kb.cell 2 rfl; have z2 := kb.free 2; have b3 := kb.cell 3 rfl; have z3 := kb.free 3; have b4 := kb.cell 4 rfl; have z4 := kb.free 4; have b5 := kb.cell 5 rfl; have z5 := kb.free 5; have hlt := kb.lt; have HK := Lib.hid (And.intro kb (And.intro f1 (And.intro hd hy))); clear kb f1 hd hy) | (go_at_call 84; refine (HW.out _).mono ?_; rintro e w2 ⟨rfl, rfl⟩))
  have hk := ((((((HK.out.1.set 0 (.int .i64 y)).set 1 (.int .i64 m)).set 2 (.int .i64 d)).set 3 (.int .i64 ((n : Int) / 60 % 24))).set 4 (.int .i64 ((n : Int) % 60))).set 5 (.int .i64 (((n : Int) / 1440 + 4) % 7))).al (.cells #[.int .i64 y, .int .i64 m, .int .i64 d, .int .i64 ((n : Int) / 60 % 24), .int .i64 ((n : Int) % 60), .int .i64 (((n : Int) / 1440 + 4) % 7)] 74)
  refine bodyPost_ret (results_row_tmp rfl _ _ w.heap.size 74 [.int .i64 y, .int .i64 m, .int .i64 d, .int .i64 ((n : Int) / 60 % 24), .int .i64 ((n : Int) % 60), .int .i64 (((n : Int) / 1440 + 4) % 7)] _ rfl hk Tryd.underlying74 rfl (by kernel_rfl)) rfl ⟨y, m, d, rfl, HK.out.2.2.1, HK.out.2.2.2, ?_⟩
  refine Fr.alloc ?_ _
  (repeat' refine Fr.setCell ?_ (.inr (Nat.le_refl _)) _)
  exact ((Fr.refl _ w).alloc _).tr HK.out.2.1
theorem of_at (n : Nat) (n' : Int) (w : World) (h : n ≤ 541727999) (e : n' = n) : Calls Tryd.prog 42 #[.int .i64 n'] w fun e w' => OfOk n w e w' := e ▸ of_ok n w h
end Go.Proofs.YtnjfefbeemicaaaDoor
