/-
  The reference's spec test (complineref19.Check) and complineref22.odd.
-/
import Derived.Test.YtnjfefbeemicaaaDoorRefA
namespace Go.Proofs.YtnjfefbeemicaaaDoor
open Go.RowKit Go.Shelf

theorem rfchk0 (x : Sp) (w : World) (hx : x.Wf) : Calls Tryd.prog 82 #[.agg #[.int .u64 x.mi, .bool x.s0], .int .i64 0] w fun e w' => e = .returned (.int .i64 (if x.okA 0 then 0 else 2)) ∧ Fr (fun _ => False) w w' :=
  (rcheck_any x.mi 0 0 59 x.s0 w hx.mi rfl (by omega)).mono fun _ _ h => h.same (fok0 x.mi x.s0 hx.mi)
theorem rfchk1 (x : Sp) (w : World) (hx : x.Wf) : Calls Tryd.prog 82 #[.agg #[.int .u64 x.ho, .bool x.s1], .int .i64 1] w fun e w' => e = .returned (.int .i64 (if x.okA 1 then 0 else 2)) ∧ Fr (fun _ => False) w w' :=
  (rcheck_any x.ho 1 0 23 x.s1 w hx.ho rfl (by omega)).mono fun _ _ h => h.same (fok1 x.ho x.s1 hx.ho)
theorem rfchk2 (x : Sp) (w : World) (hx : x.Wf) : Calls Tryd.prog 82 #[.agg #[.int .u64 x.da, .bool x.s2], .int .i64 2] w fun e w' => e = .returned (.int .i64 (if x.okA 2 then 0 else 2)) ∧ Fr (fun _ => False) w w' :=
  (rcheck_any x.da 2 1 31 x.s2 w hx.da rfl (by omega)).mono fun _ _ h => h.same (fok2 x.da x.s2 hx.da)
theorem rfchk3 (x : Sp) (w : World) (hx : x.Wf) : Calls Tryd.prog 82 #[.agg #[.int .u64 x.mo, .bool x.s3], .int .i64 3] w fun e w' => e = .returned (.int .i64 (if x.okA 3 then 0 else 2)) ∧ Fr (fun _ => False) w w' :=
  (rcheck_any x.mo 3 1 12 x.s3 w hx.mo rfl (by omega)).mono fun _ _ h => h.same (fok3 x.mo x.s3 hx.mo)
theorem rfchk4 (x : Sp) (w : World) (hx : x.Wf) : Calls Tryd.prog 82 #[.agg #[.int .u64 x.we, .bool x.s4], .int .i64 4] w fun e w' => e = .returned (.int .i64 (if x.okA 4 then 0 else 2)) ∧ Fr (fun _ => False) w w' :=
  (rcheck_any x.we 4 0 6 x.s4 w hx.we rfl (by omega)).mono fun _ _ h => h.same (fok4 x.we x.s4 hx.we)

def RFields (x : Sp) (w : World) (e : Ending) (w' : World) : Prop := ∃ b, e = .returned (.slice (some ⟨b, 0, none⟩) 5 5) ∧ Fr (fun _ => False) w w' ∧ Bk w' b 24 x.cs
set_option maxRecDepth 8000 in
set_option maxHeartbeats 1000000 in
theorem rfields_any (x : Sp) (w : World) : Calls Tryd.prog 81 #[.agg x.cs.toArray] w fun e w' => RFields x w e w' := by
  have f0 : Fr (fun _ => False) w (w.alloc (.cells x.cs.toArray 26)) := (Fr.refl _ w).alloc _
  have kp := Bk.new w x.cs 26
  have a0 := kp.cell 0 rfl
  have a1 := kp.cell 1 rfl
  have a2 := kp.cell 2 rfl
  have a3 := kp.cell 3 rfl
  have a4 := kp.cell 4 rfl
  have a5 := kp.cell 5 rfl
  have a6 := kp.cell 6 rfl
  have a7 := kp.cell 7 rfl
  have a8 := kp.cell 8 rfl
  have a9 := kp.cell 9 rfl
  have HF := Lib.hid f0
  clear f0 kp
  go_enter Tryd.func81, Tryd.ntmps81
  go_wp2_with fail
  go_ret
  have kb := Bk.new (w.alloc (.cells x.cs.toArray 26)) x.cs 24
  rw [World.size_alloc] at kb
  exact ⟨w.heap.size + 1, rfl, HF.out.alloc _, kb⟩
set_option maxRecDepth 8000 in
set_option maxHeartbeats 4000000 in
theorem rscheck_any (x : Sp) (w : World) (hx : x.Wf) : Calls Tryd.prog 36 #[.agg x.cs.toArray] w fun e w' => SCheck x w e w' := by
  have f0 : Fr (fun _ => False) w (w.alloc (.cells x.cs.toArray 26)) := (Fr.refl _ w).alloc _
  have kp := Bk.new w x.cs 26
  have a0 := kp.cell 0 rfl
  have a1 := kp.cell 1 rfl
  have a2 := kp.cell 2 rfl
  have a3 := kp.cell 3 rfl
  have a4 := kp.cell 4 rfl
  have a5 := kp.cell 5 rfl
  have a6 := kp.cell 6 rfl
  have a7 := kp.cell 7 rfl
  have a8 := kp.cell 8 rfl
  have a9 := kp.cell 9 rfl
  have HFld := Lib.hid (fun w => rfields_any x w)
  have HX := Lib.hid hx
  have H0 := Lib.hid f0
  clear f0 kp hx
  go_enter Tryd.func36, Tryd.ntmps36
  go_wp2_with fail
  refine (HFld.out _).mono ?_
  rintro e w1 ⟨b, rfl, f1, kb⟩
  have HB := Lib.hid (And.intro (H0.out.tr f1) kb)
  clear f1 kb a0 a1 a2 a3 a4 a5 a6 a7 a8 a9
  go_wp2_with fail
  go_loopw [5] (fun i wr => ∃ k : Nat, k ≤ 5 ∧ i = .int .i64 k ∧ Hid ((∀ j, j < k → x.okA j = true) ∧ Fr (fun _ => False) w wr ∧ Bk wr b 24 x.cs)) (fun i _ => 5 - (intOf i).toNat)
  case atStart => exact ⟨0, by omega, rfl, Lib.hid ⟨fun j hj => absurd hj (by omega), HB.out⟩⟩
  case round =>
    obtain ⟨k, hk, rfl, HI⟩ := hrel
    rcases (by omega : k = 5 ∨ k = 0 ∨ k = 1 ∨ k = 2 ∨ k = 3 ∨ k = 4) with rfl | rfl | rfl | rfl | rfl | rfl
    · have HN := Lib.hid (x.bad_none HI.out.1)
      go_wp2_with fail
      go_ret2
      exact ⟨by rw [HN.out.1, HN.out.2]; rfl, HI.out.2.1⟩
    · have a0 := HI.out.2.2.cell 0 rfl
      have a1 := HI.out.2.2.cell 1 rfl
      have HF := rfchk0 x wr HX.out
      cases hk : x.okA 0 <;> rw [hk] at HF
      · have HN := Lib.hid (x.bad_of 0 (by omega) HI.out.1 hk)
        have HG := Lib.hid HF
        clear hk HF
        go_wp2_with (go_at_call 82; refine HG.out.mono ?_; rintro e w2 ⟨rfl, f2⟩)
        go_ret2
        exact ⟨by rw [HN.out.1, HN.out.2]; rfl, HI.out.2.1.tr f2⟩
      · have HH := Lib.hid hk
        have HG := Lib.hid HF
        clear hk HF
        go_wp2_with (go_at_call 82; refine HG.out.mono ?_; rintro e w2 ⟨rfl, f2⟩)
        go_roundw
        case rel =>
          refine ⟨1, by omega, by go_num, Lib.hid ⟨fun j hj => ?_, HI.out.2.1.tr f2, HI.out.2.2.fr0 f2⟩⟩
          rcases Nat.lt_or_ge j 0 with h | h
          · exact HI.out.1 j h
          · rw [show j = 0 by omega]; exact HH.out
        case measure => simp [intOf]
    · have a0 := HI.out.2.2.cell 2 rfl
      have a1 := HI.out.2.2.cell 3 rfl
      have HF := rfchk1 x wr HX.out
      cases hk : x.okA 1 <;> rw [hk] at HF
      · have HN := Lib.hid (x.bad_of 1 (by omega) HI.out.1 hk)
        have HG := Lib.hid HF
        clear hk HF
        go_wp2_with (go_at_call 82; refine HG.out.mono ?_; rintro e w2 ⟨rfl, f2⟩)
        go_ret2
        exact ⟨by rw [HN.out.1, HN.out.2]; rfl, HI.out.2.1.tr f2⟩
      · have HH := Lib.hid hk
        have HG := Lib.hid HF
        clear hk HF
        go_wp2_with (go_at_call 82; refine HG.out.mono ?_; rintro e w2 ⟨rfl, f2⟩)
        go_roundw
        case rel =>
          refine ⟨2, by omega, by go_num, Lib.hid ⟨fun j hj => ?_, HI.out.2.1.tr f2, HI.out.2.2.fr0 f2⟩⟩
          rcases Nat.lt_or_ge j 1 with h | h
          · exact HI.out.1 j h
          · rw [show j = 1 by omega]; exact HH.out
        case measure => simp [intOf]
    · have a0 := HI.out.2.2.cell 4 rfl
      have a1 := HI.out.2.2.cell 5 rfl
      have HF := rfchk2 x wr HX.out
      cases hk : x.okA 2 <;> rw [hk] at HF
      · have HN := Lib.hid (x.bad_of 2 (by omega) HI.out.1 hk)
        have HG := Lib.hid HF
        clear hk HF
        go_wp2_with (go_at_call 82; refine HG.out.mono ?_; rintro e w2 ⟨rfl, f2⟩)
        go_ret2
        exact ⟨by rw [HN.out.1, HN.out.2]; rfl, HI.out.2.1.tr f2⟩
      · have HH := Lib.hid hk
        have HG := Lib.hid HF
        clear hk HF
        go_wp2_with (go_at_call 82; refine HG.out.mono ?_; rintro e w2 ⟨rfl, f2⟩)
        go_roundw
        case rel =>
          refine ⟨3, by omega, by go_num, Lib.hid ⟨fun j hj => ?_, HI.out.2.1.tr f2, HI.out.2.2.fr0 f2⟩⟩
          rcases Nat.lt_or_ge j 2 with h | h
          · exact HI.out.1 j h
          · rw [show j = 2 by omega]; exact HH.out
        case measure => simp [intOf]
    · have a0 := HI.out.2.2.cell 6 rfl
      have a1 := HI.out.2.2.cell 7 rfl
      have HF := rfchk3 x wr HX.out
      cases hk : x.okA 3 <;> rw [hk] at HF
      · have HN := Lib.hid (x.bad_of 3 (by omega) HI.out.1 hk)
        have HG := Lib.hid HF
        clear hk HF
        go_wp2_with (go_at_call 82; refine HG.out.mono ?_; rintro e w2 ⟨rfl, f2⟩)
        go_ret2
        exact ⟨by rw [HN.out.1, HN.out.2]; rfl, HI.out.2.1.tr f2⟩
      · have HH := Lib.hid hk
        have HG := Lib.hid HF
        clear hk HF
        go_wp2_with (go_at_call 82; refine HG.out.mono ?_; rintro e w2 ⟨rfl, f2⟩)
        go_roundw
        case rel =>
          refine ⟨4, by omega, by go_num, Lib.hid ⟨fun j hj => ?_, HI.out.2.1.tr f2, HI.out.2.2.fr0 f2⟩⟩
          rcases Nat.lt_or_ge j 3 with h | h
          · exact HI.out.1 j h
          · rw [show j = 3 by omega]; exact HH.out
        case measure => simp [intOf]
    · have a0 := HI.out.2.2.cell 8 rfl
      have a1 := HI.out.2.2.cell 9 rfl
      have HF := rfchk4 x wr HX.out
      cases hk : x.okA 4 <;> rw [hk] at HF
      · have HN := Lib.hid (x.bad_of 4 (by omega) HI.out.1 hk)
        have HG := Lib.hid HF
        clear hk HF
        go_wp2_with (go_at_call 82; refine HG.out.mono ?_; rintro e w2 ⟨rfl, f2⟩)
        go_ret2
        exact ⟨by rw [HN.out.1, HN.out.2]; rfl, HI.out.2.1.tr f2⟩
      · have HH := Lib.hid hk
        have HG := Lib.hid HF
        clear hk HF
        go_wp2_with (go_at_call 82; refine HG.out.mono ?_; rintro e w2 ⟨rfl, f2⟩)
        go_roundw
        case rel =>
          refine ⟨5, by omega, by go_num, Lib.hid ⟨fun j hj => ?_, HI.out.2.1.tr f2, HI.out.2.2.fr0 f2⟩⟩
          rcases Nat.lt_or_ge j 4 with h | h
          · exact HI.out.1 j h
          · rw [show j = 4 by omega]; exact HH.out
        case measure => simp [intOf]
theorem rodd_any (x : Sp) (w : World) (hx : x.Wf) : Calls Tryd.prog 76 #[.agg x.cs.toArray] w fun e w' => e = .returned (.bool (!x.ok)) ∧ Fr (fun _ => False) w w' := by
  have HC := Lib.hid (fun w => rscheck_any x w hx)
  have fb : Fr (fun _ => False) w (w.alloc (.cells x.cs.toArray 26)) := (Fr.refl _ w).alloc _
  have HB := Lib.hid fb
  clear fb hx
  cases hb : x.ok
  all_goals
    have HH := Lib.hid hb
    clear hb
    go_enter Tryd.func76, Tryd.ntmps76
    go_wp2_with (go_at_call 36; refine (HC.out _).mono ?_; rintro e w1 ⟨rfl, f1⟩; rw [HH.out]; have HF := Lib.hid f1; clear f1)
    go_ret
    exact ⟨rfl, HB.out.tr HF.out⟩
end Go.Proofs.YtnjfefbeemicaaaDoor
