/-
  All the values of a kind; which fields may be fields.
-/
import Derived.Test.YtnjfefbeemicaaaDoorCalG
namespace Go.Proofs.YtnjfefbeemicaaaDoor
open Go.RowKit

theorem every0 (w : World) : Calls Tryd.prog 67 #[.int .i64 0, .int .i64 59] w fun e w' => e = .returned (.int .u64 1152921504606846975) ∧ w' = w := by
  go_enter Tryd.func67, Tryd.ntmps67
  go_wp2_with fail
  go_ret
  exact ⟨rfl, rfl⟩
theorem every1 (w : World) : Calls Tryd.prog 67 #[.int .i64 0, .int .i64 23] w fun e w' => e = .returned (.int .u64 16777215) ∧ w' = w := by
  go_enter Tryd.func67, Tryd.ntmps67
  go_wp2_with fail
  go_ret
  exact ⟨rfl, rfl⟩
theorem every2 (w : World) : Calls Tryd.prog 67 #[.int .i64 1, .int .i64 31] w fun e w' => e = .returned (.int .u64 4294967294) ∧ w' = w := by
  go_enter Tryd.func67, Tryd.ntmps67
  go_wp2_with fail
  go_ret
  exact ⟨rfl, rfl⟩
theorem every3 (w : World) : Calls Tryd.prog 67 #[.int .i64 1, .int .i64 12] w fun e w' => e = .returned (.int .u64 8190) ∧ w' = w := by
  go_enter Tryd.func67, Tryd.ntmps67
  go_wp2_with fail
  go_ret
  exact ⟨rfl, rfl⟩
theorem every4 (w : World) : Calls Tryd.prog 67 #[.int .i64 0, .int .i64 6] w fun e w' => e = .returned (.int .u64 127) ∧ w' = w := by
  go_enter Tryd.func67, Tryd.ntmps67
  go_wp2_with fail
  go_ret
  exact ⟨rfl, rfl⟩
/-- What field.Check looks at: b, what is beyond all, the star. -/
def okW (b all : Int) (st : Bool) : Bool := !(b == 0) && (bits BinOp.andNot IntKind.u64 b all == 0) && (!st || b == all)
set_option maxRecDepth 8000 in
set_option maxHeartbeats 2000000 in
theorem fcheck_any (b k lo hi all : Int) (st : Bool) (w : World) (hl : lim6 k = (lo, hi, 0)) (hE : ∀ w : World, Calls Tryd.prog 67 #[.int .i64 lo, .int .i64 hi] w fun e w' => e = .returned (.int .u64 all) ∧ w' = w) :
    Calls Tryd.prog 55 #[.agg #[.int .u64 b, .bool st], .int .i64 k] w fun e w' => e = .returned (.int .i64 (if okW b all st then 0 else 2)) ∧ Fr (fun _ => False) w w' := by
  have HL := Lib.hid (fun w => hl ▸ flimits_any k w)
  have HE := Lib.hid hE
  clear hl hE
  unfold okW
  cases h1 : (b == 0) <;> cases h2 : (bits BinOp.andNot IntKind.u64 b all == 0) <;> cases h3 : (b == all) <;> cases st
  all_goals
    have h2' : (bits BinOp.andNot IntKind.u64 b all != 0) = !(bits BinOp.andNot IntKind.u64 b all == 0) := rfl
    have h3' : (b != all) = !(b == all) := rfl
    rw [h2] at h2'
    rw [h3] at h3'
    go_enter Tryd.func55, Tryd.ntmps55
    go_wp2_with (first | (go_at_call 56; refine (HL.out _).mono ?_; rintro e w1 ⟨rfl, rfl⟩) | (go_at_call 67; refine (HE.out _).mono ?_; rintro e w1 ⟨rfl, rfl⟩))
    go_ret
    exact ⟨rfl, (Fr.refl _ w).alloc _⟩
end Go.Proofs.YtnjfefbeemicaaaDoor
