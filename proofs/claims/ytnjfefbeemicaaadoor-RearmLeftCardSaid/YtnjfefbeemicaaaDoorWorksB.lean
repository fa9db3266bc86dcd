/-
  The law's fixed examples: they hold.
-/
import Derived.Test.YtnjfefbeemicaaaDoorWorksA
namespace Go.Proofs.YtnjfefbeemicaaaDoor
open Go.RowKit Go.Shelf

def WorksC (w : World) (e : Ending) (w' : World) : Prop := e = .returned (.bool true) ∧ Fr (fun _ => False) w w'
set_option maxRecDepth 100000 in
set_option maxHeartbeats 4000000 in
theorem works_any (w : World) (hT : TB w) : Calls Tryd.prog 11 #[] w fun e w' => WorksC w e w' := by
  have HT := Lib.hid hT
  have e8 := wk8
  clear hT
  go_enter Tryd.func11, Tryd.ntmps11
  go_wp2_with fail
  have fP : Fr (fun _ => False) w (w.alloc (.cells #[.int .i64 1, .int .u64 10, .int .i64 3, .int .u64 0, .bool false, .int .u64 0, .bool false, .int .u64 0, .bool false, .int .u64 0, .bool false, .int .u64 0, .bool false] 28)) := (Fr.refl _ w).alloc _
  have kP := Bk.new w [.int .i64 1, .int .u64 10, .int .i64 3, .int .u64 0, .bool false, .int .u64 0, .bool false, .int .u64 0, .bool false, .int .u64 0, .bool false, .int .u64 0, .bool false] 28
  have HP := Lib.hid (And.intro fP kP)
  clear fP kP
  refine (wk1 _ (HT.out.fr HP.out.1)).mono ?_
  rintro e w1 ⟨rfl, f1⟩
  have HF1 := Lib.hid (HP.out.1.tr f1)
  have HP1 := Lib.hid (HP.out.2.fr0 f1)
  have hlt1 := HP1.out.lt
  clear f1
  go_wp2_with fail
  refine (sstars_any _).mono ?_
  rintro e w2 ⟨rfl, f2⟩
  have HF2 := Lib.hid ((HF1.out.alloc _).tr f2)
  have HP2 := Lib.hid ((HP1.out.al _).fr0 f2)
  have HQ2 := Lib.hid ((Bk.new w1 [.int .i64 1, .int .u64 10, .int .i64 2, .int .u64 0, .bool false, .int .u64 0, .bool false, .int .u64 0, .bool false, .int .u64 0, .bool false, .int .u64 0, .bool false] 28).fr0 f2)
  have hlt2 := HQ2.out.lt
  clear f2
  go_wp2_with fail
  refine (wk2 _ (HT.out.fr (HF2.out.alloc _))).mono ?_
  rintro e w3 ⟨rfl, f3⟩
  have HF3 := Lib.hid ((HF2.out.alloc _).tr f3)
  have HP3 := Lib.hid ((HP2.out.al _).fr0 f3)
  have HQ3 := Lib.hid ((HQ2.out.al _).fr0 f3)
  clear f3
  go_wp2_with fail
  refine (wk3 _ (HT.out.fr HF3.out)).mono ?_
  rintro e w4 ⟨rfl, f4⟩
  have HF4 := Lib.hid (HF3.out.tr f4)
  have HP4 := Lib.hid (HP3.out.fr0 f4)
  have HQ4 := Lib.hid (HQ3.out.fr0 f4)
  clear f4
  go_wp2_with fail
  refine (wk4 _ (HT.out.fr HF4.out)).mono ?_
  rintro e w5 ⟨rfl, f5⟩
  have HF5 := Lib.hid (HF4.out.tr f5)
  have HP5 := Lib.hid (HP4.out.fr0 f5)
  have HQ5 := Lib.hid (HQ4.out.fr0 f5)
  have hlt5 := HQ5.out.lt
  clear f5
  have a0 := HQ5.out.cell 0 rfl
  have a1 := HQ5.out.cell 1 rfl
  have a2 := HQ5.out.cell 2 rfl
  have a3 := HQ5.out.cell 3 rfl
  have a4 := HQ5.out.cell 4 rfl
  have a5 := HQ5.out.cell 5 rfl
  have a6 := HQ5.out.cell 6 rfl
  have a7 := HQ5.out.cell 7 rfl
  have a8 := HQ5.out.cell 8 rfl
  have a9 := HQ5.out.cell 9 rfl
  have a10 := HQ5.out.cell 10 rfl
  have a11 := HQ5.out.cell 11 rfl
  have a12 := HQ5.out.cell 12 rfl
  go_wp2_with (first | (go_at_call 14; refine (wk5 _).mono ?_; rintro e w6 ⟨rfl, rfl⟩))
  refine (wk6 _).mono ?_
  rintro e w7 ⟨rfl, f7⟩
  have HF7 := Lib.hid ((HF5.out.alloc _).tr f7)
  have HP7 := Lib.hid ((HP5.out.al _).fr0 f7)
  clear f7
  have b0 := HP7.out.cell 0 rfl
  have b1 := HP7.out.cell 1 rfl
  have b2 := HP7.out.cell 2 rfl
  have b3 := HP7.out.cell 3 rfl
  have b4 := HP7.out.cell 4 rfl
  have b5 := HP7.out.cell 5 rfl
  have b6 := HP7.out.cell 6 rfl
  have b7 := HP7.out.cell 7 rfl
  have b8 := HP7.out.cell 8 rfl
  have b9 := HP7.out.cell 9 rfl
  have b10 := HP7.out.cell 10 rfl
  have b11 := HP7.out.cell 11 rfl
  have b12 := HP7.out.cell 12 rfl
  go_wp2_with fail
  refine (wk7 _).mono ?_
  rintro e w8 ⟨rfl, f8⟩
  have HF8 := Lib.hid (HF7.out.tr f8)
  clear f8
  go_wp2_with fail
  go_ret
  exact ⟨rfl, HF8.out⟩
end Go.Proofs.YtnjfefbeemicaaaDoor
