/-
  spec.Check: which field is wrong.
-/
import Derived.Test.YtnjfefbeemicaaaDoorSpecA
namespace Go.Proofs.YtnjfefbeemicaaaDoor
open Go.RowKit

def allK : Nat → Int
  | 0 => 1152921504606846975
  | 1 => 16777215
  | 2 => 4294967294
  | 3 => 8190
  | _ => 127
def Sp.bits (x : Sp) : Nat → Nat
  | 0 => x.mi
  | 1 => x.ho
  | 2 => x.da
  | 3 => x.mo
  | _ => x.we
def Sp.star (x : Sp) : Nat → Bool
  | 0 => x.s0
  | 1 => x.s1
  | 2 => x.s2
  | 3 => x.s3
  | _ => x.s4
/-- May field k of x be a field of kind k? -/
def Sp.okA (x : Sp) (k : Nat) : Bool := okW (x.bits k) (allK k) (x.star k)
/-- The first field that is wrong, 0 if none is. -/
def Sp.bad (x : Sp) : Int := if x.okA 0 = false then 1 else if x.okA 1 = false then 2 else if x.okA 2 = false then 3 else if x.okA 3 = false then 4 else if x.okA 4 = false then 5 else 0
def Sp.ok (x : Sp) : Bool := x.okA 0 && x.okA 1 && x.okA 2 && x.okA 3 && x.okA 4
theorem Sp.bad_iff (x : Sp) : x.bad = 0 ↔ x.ok = true := by
  unfold Sp.bad Sp.ok
  cases x.okA 0 <;> cases x.okA 1 <;> cases x.okA 2 <;> cases x.okA 3 <;> cases x.okA 4 <;> simp
theorem Sp.bad_of (x : Sp) (k : Nat) (hk : k < 5) (h : ∀ j, j < k → x.okA j = true) (hf : x.okA k = false) : x.bad = (k : Int) + 1 ∧ x.ok = false := by
  unfold Sp.bad Sp.ok
  rcases (by omega : k = 0 ∨ k = 1 ∨ k = 2 ∨ k = 3 ∨ k = 4) with rfl | rfl | rfl | rfl | rfl
  · simp [hf]
  · simp [hf, h 0 (by omega)]
  · simp [hf, h 0 (by omega), h 1 (by omega)]
  · simp [hf, h 0 (by omega), h 1 (by omega), h 2 (by omega)]
  · simp [hf, h 0 (by omega), h 1 (by omega), h 2 (by omega), h 3 (by omega)]
theorem Sp.bad_none (x : Sp) (h : ∀ j, j < 5 → x.okA j = true) : x.bad = 0 ∧ x.ok = true := by
  unfold Sp.bad Sp.ok
  simp [h 0 (by omega), h 1 (by omega), h 2 (by omega), h 3 (by omega), h 4 (by omega)]
theorem fchk0 (x : Sp) (w : World) : Calls Tryd.prog 55 #[.agg #[.int .u64 x.mi, .bool x.s0], .int .i64 0] w fun e w' => e = .returned (.int .i64 (if x.okA 0 then 0 else 2)) ∧ Fr (fun _ => False) w w' := fcheck_any x.mi 0 0 59 1152921504606846975 x.s0 w rfl every0
theorem fix0 (n : Nat) (w : World) : (Instr.index 120 (.agg (five n)) (.int .i64 0)).run Tryd.prog w = .ok (.func (.func 110) #[] #[.pointer (some ⟨n, 0, none⟩)]) w := by kernel_rfl
theorem fchk1 (x : Sp) (w : World) : Calls Tryd.prog 55 #[.agg #[.int .u64 x.ho, .bool x.s1], .int .i64 1] w fun e w' => e = .returned (.int .i64 (if x.okA 1 then 0 else 2)) ∧ Fr (fun _ => False) w w' := fcheck_any x.ho 1 0 23 16777215 x.s1 w rfl every1
theorem fix1 (n : Nat) (w : World) : (Instr.index 120 (.agg (five n)) (.int .i64 1)).run Tryd.prog w = .ok (.func (.func 111) #[] #[.pointer (some ⟨n, 0, none⟩)]) w := by kernel_rfl
theorem fchk2 (x : Sp) (w : World) : Calls Tryd.prog 55 #[.agg #[.int .u64 x.da, .bool x.s2], .int .i64 2] w fun e w' => e = .returned (.int .i64 (if x.okA 2 then 0 else 2)) ∧ Fr (fun _ => False) w w' := fcheck_any x.da 2 1 31 4294967294 x.s2 w rfl every2
theorem fix2 (n : Nat) (w : World) : (Instr.index 120 (.agg (five n)) (.int .i64 2)).run Tryd.prog w = .ok (.func (.func 112) #[] #[.pointer (some ⟨n, 0, none⟩)]) w := by kernel_rfl
theorem fchk3 (x : Sp) (w : World) : Calls Tryd.prog 55 #[.agg #[.int .u64 x.mo, .bool x.s3], .int .i64 3] w fun e w' => e = .returned (.int .i64 (if x.okA 3 then 0 else 2)) ∧ Fr (fun _ => False) w w' := fcheck_any x.mo 3 1 12 8190 x.s3 w rfl every3
theorem fix3 (n : Nat) (w : World) : (Instr.index 120 (.agg (five n)) (.int .i64 3)).run Tryd.prog w = .ok (.func (.func 113) #[] #[.pointer (some ⟨n, 0, none⟩)]) w := by kernel_rfl
theorem fchk4 (x : Sp) (w : World) : Calls Tryd.prog 55 #[.agg #[.int .u64 x.we, .bool x.s4], .int .i64 4] w fun e w' => e = .returned (.int .i64 (if x.okA 4 then 0 else 2)) ∧ Fr (fun _ => False) w w' := fcheck_any x.we 4 0 6 127 x.s4 w rfl every4
theorem fix4 (n : Nat) (w : World) : (Instr.index 120 (.agg (five n)) (.int .i64 4)).run Tryd.prog w = .ok (.func (.func 114) #[] #[.pointer (some ⟨n, 0, none⟩)]) w := by kernel_rfl
def SCheck (x : Sp) (w : World) (e : Ending) (w' : World) : Prop := e = .returned (.tuple #[.int .i64 x.bad, .int .i64 (if x.ok then 0 else 2)]) ∧ Fr (fun _ => False) w w'
set_option maxRecDepth 8000 in
set_option maxHeartbeats 4000000 in
theorem scheck_any (x : Sp) (w : World) : Calls Tryd.prog 35 #[.agg x.cs.toArray] w fun e w' => SCheck x w e w' := by
  go_enter Tryd.func35, Tryd.ntmps35
  go_wp2_with (go_at_call 73; refine (fields_any _ _).mono ?_; rintro e w1 ⟨rfl, f1, k1⟩)
  have kx : Bk w1 w.heap.size 26 x.cs := (Bk.new w x.cs 26).fr0 f1
  have fx : Fr (fun _ => False) w w1 := ((Fr.refl _ w).alloc _).tr f1
  rw [World.size_alloc] at k1
  have H0 := Lib.hid (And.intro fx (And.intro kx k1))
  clear fx kx k1 f1
  generalize w.heap.size + 1 = n at *
  go_loopw [8] (fun i wr => ∃ k : Nat, k ≤ 5 ∧ i = .int .i64 k ∧ Hid ((∀ j, j < k → x.okA j = true) ∧ Fr (fun _ => False) w wr ∧ Bk wr w.heap.size 26 x.cs ∧ Bk wr n 122 [.pointer (some ⟨w.heap.size, 0, none⟩)])) (fun i _ => 5 - (intOf i).toNat)
  case atStart => exact ⟨0, by omega, rfl, Lib.hid ⟨fun j hj => absurd hj (by omega), H0.out⟩⟩
  case round =>
    obtain ⟨k, hk, rfl, HI⟩ := hrel
    rcases (by omega : k = 5 ∨ k = 0 ∨ k = 1 ∨ k = 2 ∨ k = 3 ∨ k = 4) with rfl | rfl | rfl | rfl | rfl | rfl
    · have HB := Lib.hid (x.bad_none HI.out.1)
      go_wp2_with fail
      go_ret2
      exact ⟨by rw [HB.out.1, HB.out.2]; rfl, HI.out.2.1⟩
    · have a0 := HI.out.2.2.1.cell 0 rfl
      have a1 := HI.out.2.2.1.cell 1 rfl
      have ix := fix0 n wr
      have HC := Lib.hid (fields0 _ _ wr HI.out.2.2.2)
      have HF := Lib.hid (fchk0 x wr)
      cases hk : x.okA 0 <;> rw [hk] at HF
      · have HB := Lib.hid (x.bad_of 0 (by omega) HI.out.1 hk)
        clear hk
        go_wp2_with (first | (go_at_call 110; refine HC.out.mono ?_; rintro e w1 ⟨rfl, rfl⟩) | (go_at_call 55; refine HF.out.mono ?_; rintro e w2 ⟨rfl, f2⟩))
        go_ret2
        exact ⟨by rw [HB.out.1, HB.out.2]; rfl, HI.out.2.1.tr f2⟩
      · have HH := Lib.hid hk
        clear hk
        go_wp2_with (first | (go_at_call 110; refine HC.out.mono ?_; rintro e w1 ⟨rfl, rfl⟩) | (go_at_call 55; refine HF.out.mono ?_; rintro e w2 ⟨rfl, f2⟩))
        go_roundw
        case rel =>
          refine ⟨1, by omega, by go_num, Lib.hid ⟨fun j hj => ?_, HI.out.2.1.tr f2, HI.out.2.2.1.fr0 f2, HI.out.2.2.2.fr0 f2⟩⟩
          rcases Nat.lt_or_ge j 0 with h | h
          · exact HI.out.1 j h
          · rw [show j = 0 by omega]; exact HH.out
        case measure => simp [intOf]
    · have a0 := HI.out.2.2.1.cell 2 rfl
      have a1 := HI.out.2.2.1.cell 3 rfl
      have ix := fix1 n wr
      have HC := Lib.hid (fields1 _ _ wr HI.out.2.2.2)
      have HF := Lib.hid (fchk1 x wr)
      cases hk : x.okA 1 <;> rw [hk] at HF
      · have HB := Lib.hid (x.bad_of 1 (by omega) HI.out.1 hk)
        clear hk
        go_wp2_with (first | (go_at_call 111; refine HC.out.mono ?_; rintro e w1 ⟨rfl, rfl⟩) | (go_at_call 55; refine HF.out.mono ?_; rintro e w2 ⟨rfl, f2⟩))
        go_ret2
        exact ⟨by rw [HB.out.1, HB.out.2]; rfl, HI.out.2.1.tr f2⟩
      · have HH := Lib.hid hk
        clear hk
        go_wp2_with (first | (go_at_call 111; refine HC.out.mono ?_; rintro e w1 ⟨rfl, rfl⟩) | (go_at_call 55; refine HF.out.mono ?_; rintro e w2 ⟨rfl, f2⟩))
        go_roundw
        case rel =>
          refine ⟨2, by omega, by go_num, Lib.hid ⟨fun j hj => ?_, HI.out.2.1.tr f2, HI.out.2.2.1.fr0 f2, HI.out.2.2.2.fr0 f2⟩⟩
          rcases Nat.lt_or_ge j 1 with h | h
          · exact HI.out.1 j h
          · rw [show j = 1 by omega]; exact HH.out
        case measure => simp [intOf]
    · have a0 := HI.out.2.2.1.cell 4 rfl
      have a1 := HI.out.2.2.1.cell 5 rfl
      have ix := fix2 n wr
      have HC := Lib.hid (fields2 _ _ wr HI.out.2.2.2)
      have HF := Lib.hid (fchk2 x wr)
      cases hk : x.okA 2 <;> rw [hk] at HF
      · have HB := Lib.hid (x.bad_of 2 (by omega) HI.out.1 hk)
        clear hk
        go_wp2_with (first | (go_at_call 112; refine HC.out.mono ?_; rintro e w1 ⟨rfl, rfl⟩) | (go_at_call 55; refine HF.out.mono ?_; rintro e w2 ⟨rfl, f2⟩))
        go_ret2
        exact ⟨by rw [HB.out.1, HB.out.2]; rfl, HI.out.2.1.tr f2⟩
      · have HH := Lib.hid hk
        clear hk
        go_wp2_with (first | (go_at_call 112; refine HC.out.mono ?_; rintro e w1 ⟨rfl, rfl⟩) | (go_at_call 55; refine HF.out.mono ?_; rintro e w2 ⟨rfl, f2⟩))
        go_roundw
        case rel =>
          refine ⟨3, by omega, by go_num, Lib.hid ⟨fun j hj => ?_, HI.out.2.1.tr f2, HI.out.2.2.1.fr0 f2, HI.out.2.2.2.fr0 f2⟩⟩
          rcases Nat.lt_or_ge j 2 with h | h
          · exact HI.out.1 j h
          · rw [show j = 2 by omega]; exact HH.out
        case measure => simp [intOf]
    · have a0 := HI.out.2.2.1.cell 6 rfl
      have a1 := HI.out.2.2.1.cell 7 rfl
      have ix := fix3 n wr
      have HC := Lib.hid (fields3 _ _ wr HI.out.2.2.2)
      have HF := Lib.hid (fchk3 x wr)
      cases hk : x.okA 3 <;> rw [hk] at HF
      · have HB := Lib.hid (x.bad_of 3 (by omega) HI.out.1 hk)
        clear hk
        go_wp2_with (first | (go_at_call 113; refine HC.out.mono ?_; rintro e w1 ⟨rfl, rfl⟩) | (go_at_call 55; refine HF.out.mono ?_; rintro e w2 ⟨rfl, f2⟩))
        go_ret2
        exact ⟨by rw [HB.out.1, HB.out.2]; rfl, HI.out.2.1.tr f2⟩
      · have HH := Lib.hid hk
        clear hk
        go_wp2_with (first | (go_at_call 113; refine HC.out.mono ?_; rintro e w1 ⟨rfl, rfl⟩) | (go_at_call 55; refine HF.out.mono ?_; rintro e w2 ⟨rfl, f2⟩))
        go_roundw
        case rel =>
          refine ⟨4, by omega, by go_num, Lib.hid ⟨fun j hj => ?_, HI.out.2.1.tr f2, HI.out.2.2.1.fr0 f2, HI.out.2.2.2.fr0 f2⟩⟩
          rcases Nat.lt_or_ge j 3 with h | h
          · exact HI.out.1 j h
          · rw [show j = 3 by omega]; exact HH.out
        case measure => simp [intOf]
    · have a0 := HI.out.2.2.1.cell 8 rfl
      have a1 := HI.out.2.2.1.cell 9 rfl
      have ix := fix4 n wr
      have HC := Lib.hid (fields4 _ _ wr HI.out.2.2.2)
      have HF := Lib.hid (fchk4 x wr)
      cases hk : x.okA 4 <;> rw [hk] at HF
      · have HB := Lib.hid (x.bad_of 4 (by omega) HI.out.1 hk)
        clear hk
        go_wp2_with (first | (go_at_call 114; refine HC.out.mono ?_; rintro e w1 ⟨rfl, rfl⟩) | (go_at_call 55; refine HF.out.mono ?_; rintro e w2 ⟨rfl, f2⟩))
        go_ret2
        exact ⟨by rw [HB.out.1, HB.out.2]; rfl, HI.out.2.1.tr f2⟩
      · have HH := Lib.hid hk
        clear hk
        go_wp2_with (first | (go_at_call 114; refine HC.out.mono ?_; rintro e w1 ⟨rfl, rfl⟩) | (go_at_call 55; refine HF.out.mono ?_; rintro e w2 ⟨rfl, f2⟩))
        go_roundw
        case rel =>
          refine ⟨5, by omega, by go_num, Lib.hid ⟨fun j hj => ?_, HI.out.2.1.tr f2, HI.out.2.2.1.fr0 f2, HI.out.2.2.2.fr0 f2⟩⟩
          rcases Nat.lt_or_ge j 4 with h | h
          · exact HI.out.1 j h
          · rw [show j = 4 by omega]; exact HH.out
        case measure => simp [intOf]
end Go.Proofs.YtnjfefbeemicaaaDoor
