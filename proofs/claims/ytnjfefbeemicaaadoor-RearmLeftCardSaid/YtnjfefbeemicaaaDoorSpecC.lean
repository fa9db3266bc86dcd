/-
  field.All; spec.Stars.
-/
import Derived.Test.YtnjfefbeemicaaaDoorSpecB
import Derived.Laws.Rows
namespace Go.Proofs.YtnjfefbeemicaaaDoor
open Go.RowKit

set_option maxRecDepth 8000 in
theorem fall_any (k lo hi all : Int) (w : World) (hl : lim6 k = (lo, hi, 0)) (hE : ∀ w : World, Calls Tryd.prog 67 #[.int .i64 lo, .int .i64 hi] w fun e w' => e = .returned (.int .u64 all) ∧ w' = w) :
    Calls Tryd.prog 25 #[.int .i64 k] w fun e w' => e = .returned (.tuple #[.agg #[.int .u64 all, .bool true], .int .i64 0]) ∧ Fr (fun _ => False) w w' := by
  have HL := Lib.hid (fun w => hl ▸ flimits_any k w)
  have HE := Lib.hid hE
  clear hl hE
  go_enter Tryd.func25, Tryd.ntmps25
  go_wp2_with (first | (go_at_call 56; refine (HL.out _).mono ?_; rintro e w1 ⟨rfl, rfl⟩) | (go_at_call 67; refine (HE.out _).mono ?_; rintro e w1 ⟨rfl, rfl⟩))
  refine bodyPost_ret (v := .tuple #[.agg #[.int .u64 all, .bool true], .int .i64 0]) (by simp [results, Tryd.results25, go_sem]) rfl ⟨rfl, ?_⟩
  exact (Fr.refl _ w).alloc _
def stars : Sp := ⟨1152921504606846975, 16777215, 4294967294, 8190, 127, true, true, true, true, true⟩
theorem stars_ok : stars.ok = true := by kernel_rfl
/-- What is filled in when k fields have been. -/
def stcs : Nat → List Value
  | 0 => [.int .u64 0, .bool false, .int .u64 0, .bool false, .int .u64 0, .bool false, .int .u64 0, .bool false, .int .u64 0, .bool false]
  | 1 => [.int .u64 1152921504606846975, .bool true, .int .u64 0, .bool false, .int .u64 0, .bool false, .int .u64 0, .bool false, .int .u64 0, .bool false]
  | 2 => [.int .u64 1152921504606846975, .bool true, .int .u64 16777215, .bool true, .int .u64 0, .bool false, .int .u64 0, .bool false, .int .u64 0, .bool false]
  | 3 => [.int .u64 1152921504606846975, .bool true, .int .u64 16777215, .bool true, .int .u64 4294967294, .bool true, .int .u64 0, .bool false, .int .u64 0, .bool false]
  | 4 => [.int .u64 1152921504606846975, .bool true, .int .u64 16777215, .bool true, .int .u64 4294967294, .bool true, .int .u64 8190, .bool true, .int .u64 0, .bool false]
  | _ => [.int .u64 1152921504606846975, .bool true, .int .u64 16777215, .bool true, .int .u64 4294967294, .bool true, .int .u64 8190, .bool true, .int .u64 127, .bool true]
theorem fall0 (w : World) : Calls Tryd.prog 25 #[.int .i64 0] w fun e w' => e = .returned (.tuple #[.agg #[.int .u64 1152921504606846975, .bool true], .int .i64 0]) ∧ Fr (fun _ => False) w w' := fall_any 0 0 59 1152921504606846975 w rfl every0
theorem fall1 (w : World) : Calls Tryd.prog 25 #[.int .i64 1] w fun e w' => e = .returned (.tuple #[.agg #[.int .u64 16777215, .bool true], .int .i64 0]) ∧ Fr (fun _ => False) w w' := fall_any 1 0 23 16777215 w rfl every1
theorem fall2 (w : World) : Calls Tryd.prog 25 #[.int .i64 2] w fun e w' => e = .returned (.tuple #[.agg #[.int .u64 4294967294, .bool true], .int .i64 0]) ∧ Fr (fun _ => False) w w' := fall_any 2 1 31 4294967294 w rfl every2
theorem fall3 (w : World) : Calls Tryd.prog 25 #[.int .i64 3] w fun e w' => e = .returned (.tuple #[.agg #[.int .u64 8190, .bool true], .int .i64 0]) ∧ Fr (fun _ => False) w w' := fall_any 3 1 12 8190 w rfl every3
theorem fall4 (w : World) : Calls Tryd.prog 25 #[.int .i64 4] w fun e w' => e = .returned (.tuple #[.agg #[.int .u64 127, .bool true], .int .i64 0]) ∧ Fr (fun _ => False) w w' := fall_any 4 0 6 127 w rfl every4
def SStars (w : World) (e : Ending) (w' : World) : Prop := e = .returned (.agg stars.cs.toArray) ∧ Fr (fun _ => False) w w'
set_option maxRecDepth 8000 in
set_option maxHeartbeats 4000000 in
theorem sstars_any (w : World) : Calls Tryd.prog 30 #[] w fun e w' => SStars w e w' := by
  go_enter Tryd.func30, Tryd.ntmps30
  go_wp2_with (go_at_call 73; refine (fields_any _ _).mono ?_; rintro e w1 ⟨rfl, f1, k1⟩)
  have kr : Bk w1 w.heap.size 26 (stcs 0) := ((Bk.new w (stcs 0) 26).al _).fr0 f1
  have kx : Bk w1 (w.heap.size + 1) 26 (stcs 0) := by have := (Bk.new (w.alloc (.cells (stcs 0).toArray 26)) (stcs 0) 26).fr0 f1; rwa [World.size_alloc] at this
  have fx : Fr (fun _ => False) w w1 := (((Fr.refl _ w).alloc _).alloc _).tr f1
  simp only [World.size_alloc] at k1
  have H0 := Lib.hid (And.intro fx (And.intro kr (And.intro kx k1)))
  clear fx kx k1 f1 kr
  go_loopw [5] (fun i wr => ∃ k : Nat, k ≤ 5 ∧ i = .int .i64 k ∧ Hid (Fr (fun _ => False) w wr ∧ Bk wr w.heap.size 26 (stcs 0) ∧ Bk wr (w.heap.size + 1) 26 (stcs k) ∧ Bk wr (w.heap.size + 1 + 1) 122 [.pointer (some ⟨w.heap.size + 1, 0, none⟩)])) (fun i _ => 5 - (intOf i).toNat)
  case atStart => exact ⟨0, by omega, rfl, H0⟩
  case round =>
    obtain ⟨k, hk, rfl, HI⟩ := hrel
    rcases (by omega : k = 5 ∨ k = 0 ∨ k = 1 ∨ k = 2 ∨ k = 3 ∨ k = 4) with rfl | rfl | rfl | rfl | rfl | rfl
    · have a0 := HI.out.2.2.1.cell 0 rfl
      have a1 := HI.out.2.2.1.cell 1 rfl
      have a2 := HI.out.2.2.1.cell 2 rfl
      have a3 := HI.out.2.2.1.cell 3 rfl
      have a4 := HI.out.2.2.1.cell 4 rfl
      have a5 := HI.out.2.2.1.cell 5 rfl
      have a6 := HI.out.2.2.1.cell 6 rfl
      have a7 := HI.out.2.2.1.cell 7 rfl
      have a8 := HI.out.2.2.1.cell 8 rfl
      have a9 := HI.out.2.2.1.cell 9 rfl
      have b0 := HI.out.2.1.cell 0 rfl
      have b1 := HI.out.2.1.cell 1 rfl
      have b2 := HI.out.2.1.cell 2 rfl
      have b3 := HI.out.2.1.cell 3 rfl
      have b4 := HI.out.2.1.cell 4 rfl
      have b5 := HI.out.2.1.cell 5 rfl
      have b6 := HI.out.2.1.cell 6 rfl
      have b7 := HI.out.2.1.cell 7 rfl
      have b8 := HI.out.2.1.cell 8 rfl
      have b9 := HI.out.2.1.cell 9 rfl
      have z0 := HI.out.2.1.free 0
      have z1 := HI.out.2.1.free 1
      have z2 := HI.out.2.1.free 2
      have z3 := HI.out.2.1.free 3
      have z4 := HI.out.2.1.free 4
      have z5 := HI.out.2.1.free 5
      have z6 := HI.out.2.1.free 6
      have z7 := HI.out.2.1.free 7
      have z8 := HI.out.2.1.free 8
      have z9 := HI.out.2.1.free 9
      go_wp2_with fail
      refine bodyPost_ret (results_cell_row rfl _ _ w.heap.size 26 stars.cs.toArray (0, 0) _ rfl ((((((((((HI.out.2.1.set 0 _).set 1 _).set 2 _).set 3 _).set 4 _).set 5 _).set 6 _).set 7 _).set 8 _).set 9 _) Tryd.underlying26 rfl (by kernel_rfl)) rfl ⟨rfl, ?_⟩
      (repeat' refine Fr.setCell ?_ (.inr (Nat.le_refl _)) _)
      exact HI.out.1
    · have a0 := HI.out.2.2.1.cell 0 rfl
      have a1 := HI.out.2.2.1.cell 1 rfl
      have z0 := HI.out.2.2.1.free 0
      have z1 := HI.out.2.2.1.free 1
      have ix := fix0 (w.heap.size + 1 + 1) wr
      have HC := Lib.hid (fields0 _ _ wr HI.out.2.2.2)
      have HF := Lib.hid (fall0 wr)
      go_wp2_with (first | (go_at_call 110; refine HC.out.mono ?_; rintro e w1 ⟨rfl, rfl⟩) | (go_at_call 25; refine HF.out.mono ?_; rintro e w2 ⟨rfl, f2⟩; have b0 := (HI.out.2.2.1.fr0 f2).cell 0 rfl; have b1 := (HI.out.2.2.1.fr0 f2).cell 1 rfl; have y0 := (HI.out.2.2.1.fr0 f2).free 0; have y1 := (HI.out.2.2.1.fr0 f2).free 1))
      go_roundw
      case rel => exact ⟨1, by omega, by go_num, Lib.hid ⟨((HI.out.1.tr f2).setCell (.inr (by simp)) _).setCell (.inr (by simp)) _, ((HI.out.2.1.fr0 f2).far (by simp) _).far (by simp) _, ((HI.out.2.2.1.fr0 f2).set 0 _).set 1 _, ((HI.out.2.2.2.fr0 f2).far (by simp) _).far (by simp) _⟩⟩
      case measure => simp [intOf]
    · have a0 := HI.out.2.2.1.cell 2 rfl
      have a1 := HI.out.2.2.1.cell 3 rfl
      have z0 := HI.out.2.2.1.free 2
      have z1 := HI.out.2.2.1.free 3
      have ix := fix1 (w.heap.size + 1 + 1) wr
      have HC := Lib.hid (fields1 _ _ wr HI.out.2.2.2)
      have HF := Lib.hid (fall1 wr)
      go_wp2_with (first | (go_at_call 111; refine HC.out.mono ?_; rintro e w1 ⟨rfl, rfl⟩) | (go_at_call 25; refine HF.out.mono ?_; rintro e w2 ⟨rfl, f2⟩; have b0 := (HI.out.2.2.1.fr0 f2).cell 2 rfl; have b1 := (HI.out.2.2.1.fr0 f2).cell 3 rfl; have y0 := (HI.out.2.2.1.fr0 f2).free 2; have y1 := (HI.out.2.2.1.fr0 f2).free 3))
      go_roundw
      case rel => exact ⟨2, by omega, by go_num, Lib.hid ⟨((HI.out.1.tr f2).setCell (.inr (by simp)) _).setCell (.inr (by simp)) _, ((HI.out.2.1.fr0 f2).far (by simp) _).far (by simp) _, ((HI.out.2.2.1.fr0 f2).set 2 _).set 3 _, ((HI.out.2.2.2.fr0 f2).far (by simp) _).far (by simp) _⟩⟩
      case measure => simp [intOf]
    · have a0 := HI.out.2.2.1.cell 4 rfl
      have a1 := HI.out.2.2.1.cell 5 rfl
      have z0 := HI.out.2.2.1.free 4
      have z1 := HI.out.2.2.1.free 5
      have ix := fix2 (w.heap.size + 1 + 1) wr
      have HC := Lib.hid (fields2 _ _ wr HI.out.2.2.2)
      have HF := Lib.hid (fall2 wr)
      go_wp2_with (first | (go_at_call 112; refine HC.out.mono ?_; rintro e w1 ⟨rfl, rfl⟩) | (go_at_call 25; refine HF.out.mono ?_; rintro e w2 ⟨rfl, f2⟩; have b0 := (HI.out.2.2.1.fr0 f2).cell 4 rfl; have b1 := (HI.out.2.2.1.fr0 f2).cell 5 rfl; have y0 := (HI.out.2.2.1.fr0 f2).free 4; have y1 := (HI.out.2.2.1.fr0 f2).free 5))
      go_roundw
      case rel => exact ⟨3, by omega, by go_num, Lib.hid ⟨((HI.out.1.tr f2).setCell (.inr (by simp)) _).setCell (.inr (by simp)) _, ((HI.out.2.1.fr0 f2).far (by simp) _).far (by simp) _, ((HI.out.2.2.1.fr0 f2).set 4 _).set 5 _, ((HI.out.2.2.2.fr0 f2).far (by simp) _).far (by simp) _⟩⟩
      case measure => simp [intOf]
    · have a0 := HI.out.2.2.1.cell 6 rfl
      have a1 := HI.out.2.2.1.cell 7 rfl
      have z0 := HI.out.2.2.1.free 6
      have z1 := HI.out.2.2.1.free 7
      have ix := fix3 (w.heap.size + 1 + 1) wr
      have HC := Lib.hid (fields3 _ _ wr HI.out.2.2.2)
      have HF := Lib.hid (fall3 wr)
      go_wp2_with (first | (go_at_call 113; refine HC.out.mono ?_; rintro e w1 ⟨rfl, rfl⟩) | (go_at_call 25; refine HF.out.mono ?_; rintro e w2 ⟨rfl, f2⟩; have b0 := (HI.out.2.2.1.fr0 f2).cell 6 rfl; have b1 := (HI.out.2.2.1.fr0 f2).cell 7 rfl; have y0 := (HI.out.2.2.1.fr0 f2).free 6; have y1 := (HI.out.2.2.1.fr0 f2).free 7))
      go_roundw
      case rel => exact ⟨4, by omega, by go_num, Lib.hid ⟨((HI.out.1.tr f2).setCell (.inr (by simp)) _).setCell (.inr (by simp)) _, ((HI.out.2.1.fr0 f2).far (by simp) _).far (by simp) _, ((HI.out.2.2.1.fr0 f2).set 6 _).set 7 _, ((HI.out.2.2.2.fr0 f2).far (by simp) _).far (by simp) _⟩⟩
      case measure => simp [intOf]
    · have a0 := HI.out.2.2.1.cell 8 rfl
      have a1 := HI.out.2.2.1.cell 9 rfl
      have z0 := HI.out.2.2.1.free 8
      have z1 := HI.out.2.2.1.free 9
      have ix := fix4 (w.heap.size + 1 + 1) wr
      have HC := Lib.hid (fields4 _ _ wr HI.out.2.2.2)
      have HF := Lib.hid (fall4 wr)
      go_wp2_with (first | (go_at_call 114; refine HC.out.mono ?_; rintro e w1 ⟨rfl, rfl⟩) | (go_at_call 25; refine HF.out.mono ?_; rintro e w2 ⟨rfl, f2⟩; have b0 := (HI.out.2.2.1.fr0 f2).cell 8 rfl; have b1 := (HI.out.2.2.1.fr0 f2).cell 9 rfl; have y0 := (HI.out.2.2.1.fr0 f2).free 8; have y1 := (HI.out.2.2.1.fr0 f2).free 9))
      go_roundw
      case rel => exact ⟨5, by omega, by go_num, Lib.hid ⟨((HI.out.1.tr f2).setCell (.inr (by simp)) _).setCell (.inr (by simp)) _, ((HI.out.2.1.fr0 f2).far (by simp) _).far (by simp) _, ((HI.out.2.2.1.fr0 f2).set 8 _).set 9 _, ((HI.out.2.2.2.fr0 f2).far (by simp) _).far (by simp) _⟩⟩
      case measure => simp [intOf]
end Go.Proofs.YtnjfefbeemicaaaDoor
