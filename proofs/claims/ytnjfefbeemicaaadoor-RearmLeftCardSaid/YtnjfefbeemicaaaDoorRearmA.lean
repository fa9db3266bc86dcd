/-
  rearm.Check.
-/
import Derived.Test.YtnjfefbeemicaaaDoorEqs
import Derived.Test.YtnjfefbeemicaaaDoorSpecB
import Derived.RegionTactic
import Derived.BigRegion
namespace Go.Proofs.YtnjfefbeemicaaaDoor
open Go.RowKit

def Sp.zero : Sp := ⟨0, 0, 0, 0, 0, false, false, false, false, false⟩
/-- What a plan may hold beside its kind. -/
def Pl.only (p : Pl) : Pl := if p.kind = 0 then ⟨p.kind, 0, 0, Sp.zero⟩ else if p.kind = 1 then ⟨p.kind, p.period, p.left, Sp.zero⟩ else ⟨p.kind, 0, 0, p.x⟩
def Pl.chk (p : Pl) : Int := if p.kind < 0 ∨ 2 < p.kind then 7 else if p.kind = 1 ∧ p.period = 0 then 10 else if (decide (p.left < 0) || !p.eqB p.only) = true then 1 else if p.kind = 2 ∧ p.x.ok = false then 2 else 0
def RChk (p : Pl) (w : World) (e : Ending) (w' : World) : Prop := e = .returned (.int .i64 p.chk) ∧ Fr (fun _ => False) w w'
set_option maxRecDepth 8000 in
set_option maxHeartbeats 1000000 in
theorem rcheck_kind (p : Pl) (w : World) (h : p.kind < 0 ∨ 2 < p.kind) : Calls Tryd.prog 16 #[.agg p.cs.toArray] w fun e w' => RChk p w e w' := by
  have hc : p.chk = 7 := by unfold Pl.chk; rw [if_pos h]
  have HC := Lib.hid hc
  obtain ⟨k, per, l, x⟩ := p
  dsimp only at h
  have t0 : (k == 0) = false := by simp; omega
  have t1 : (k == 1) = false := by simp; omega
  have t2 : (k == 2) = false := by simp; omega
  clear h hc
  go_enter Tryd.func16, Tryd.ntmps16
  go_wp2_with fail
  go_ret
  exact ⟨by rw [HC.out]; rfl, ((Fr.refl _ w).alloc _).alloc _⟩
set_option maxRecDepth 8000 in
set_option maxHeartbeats 4000000 in
theorem rcheck_once (per : Nat) (l : Int) (x : Sp) (w : World) : Calls Tryd.prog 16 #[.agg #[.int .i64 0, .int .u64 per, .int .i64 l, .int .u64 x.mi, .bool x.s0, .int .u64 x.ho, .bool x.s1, .int .u64 x.da, .bool x.s2, .int .u64 x.mo, .bool x.s3, .int .u64 x.we, .bool x.s4]] w fun e w' => RChk ⟨0, per, l, x⟩ w e w' := by
  have HS := Lib.hid (fun w => scheck_any x w)
  have ne : ∀ w, (binOp .neq 28 (.agg #[.int .i64 0, .int .u64 per, .int .i64 l, .int .u64 x.mi, .bool x.s0, .int .u64 x.ho, .bool x.s1, .int .u64 x.da, .bool x.s2, .int .u64 x.mo, .bool x.s3, .int .u64 x.we, .bool x.s4]) (.agg #[.int .i64 0, .int .u64 0, .int .i64 0, .int .u64 0, .bool false, .int .u64 0, .bool false, .int .u64 0, .bool false, .int .u64 0, .bool false, .int .u64 0, .bool false])).run Tryd.prog w = .ok (.bool (!Pl.eqB ⟨0, per, l, x⟩ ⟨0, 0, 0, Sp.zero⟩)) w := fun w => neq_plan w ⟨0, per, l, x⟩ ⟨0, 0, 0, Sp.zero⟩
  have hc : Pl.chk ⟨0, per, l, x⟩ = if (decide (l < 0) || !Pl.eqB ⟨0, per, l, x⟩ ⟨0, 0, 0, Sp.zero⟩) = true then 1 else 0 := by
    unfold Pl.chk Pl.only
    simp
  have HC := Lib.hid hc
  clear hc
  generalize Pl.eqB ⟨0, per, l, x⟩ ⟨0, 0, 0, Sp.zero⟩ = q at *
  cases hl : decide (l < 0) <;> rw [hl] at HC
  · cases q
    · go_enter Tryd.func16, Tryd.ntmps16
      go_wp2_with fail
      go_ret
      exact ⟨by rw [HC.out]; rfl, ((Fr.refl _ w).alloc _).alloc _⟩
    · go_enter Tryd.func16, Tryd.ntmps16
      go_wp2_with fail
      refine (HS.out _).mono ?_
      rintro e w1 ⟨rfl, f1⟩
      have k1 := ((Bk.new w [.int .i64 0, .int .u64 per, .int .i64 l, .int .u64 x.mi, .bool x.s0, .int .u64 x.ho, .bool x.s1, .int .u64 x.da, .bool x.s2, .int .u64 x.mo, .bool x.s3, .int .u64 x.we, .bool x.s4] 28).al _).fr0 f1
      have c0 := k1.cell 0 rfl
      have HF := Lib.hid f1
      clear f1 k1
      go_wp2_with fail
      all_goals go_ret
      all_goals exact ⟨by rw [HC.out]; rfl, (((Fr.refl _ w).alloc _).alloc _).tr HF.out⟩
  · go_enter Tryd.func16, Tryd.ntmps16
    go_wp2_with fail
    go_ret
    exact ⟨by rw [HC.out]; rfl, ((Fr.refl _ w).alloc _).alloc _⟩
set_option maxRecDepth 8000 in
set_option maxHeartbeats 1000000 in
theorem rcheck_period (l : Int) (x : Sp) (w : World) : Calls Tryd.prog 16 #[.agg #[.int .i64 1, .int .u64 0, .int .i64 l, .int .u64 x.mi, .bool x.s0, .int .u64 x.ho, .bool x.s1, .int .u64 x.da, .bool x.s2, .int .u64 x.mo, .bool x.s3, .int .u64 x.we, .bool x.s4]] w fun e w' => RChk ⟨1, 0, l, x⟩ w e w' := by
  have hc : Pl.chk ⟨1, 0, l, x⟩ = 10 := by unfold Pl.chk; simp
  have HC := Lib.hid hc
  clear hc
  go_enter Tryd.func16, Tryd.ntmps16
  go_wp2_with fail
  go_ret
  exact ⟨by rw [HC.out]; rfl, ((Fr.refl _ w).alloc _).alloc _⟩
set_option maxRecDepth 8000 in
set_option maxHeartbeats 4000000 in
theorem rcheck_every (per : Nat) (l : Int) (x : Sp) (w : World) (h0 : per ≠ 0) : Calls Tryd.prog 16 #[.agg #[.int .i64 1, .int .u64 per, .int .i64 l, .int .u64 x.mi, .bool x.s0, .int .u64 x.ho, .bool x.s1, .int .u64 x.da, .bool x.s2, .int .u64 x.mo, .bool x.s3, .int .u64 x.we, .bool x.s4]] w fun e w' => RChk ⟨1, per, l, x⟩ w e w' := by
  have HS := Lib.hid (fun w => scheck_any x w)
  have ne : ∀ w, (binOp .neq 28 (.agg #[.int .i64 1, .int .u64 per, .int .i64 l, .int .u64 x.mi, .bool x.s0, .int .u64 x.ho, .bool x.s1, .int .u64 x.da, .bool x.s2, .int .u64 x.mo, .bool x.s3, .int .u64 x.we, .bool x.s4]) (.agg #[.int .i64 1, .int .u64 per, .int .i64 l, .int .u64 0, .bool false, .int .u64 0, .bool false, .int .u64 0, .bool false, .int .u64 0, .bool false, .int .u64 0, .bool false])).run Tryd.prog w = .ok (.bool (!Pl.eqB ⟨1, per, l, x⟩ ⟨1, per, l, Sp.zero⟩)) w := fun w => neq_plan w ⟨1, per, l, x⟩ ⟨1, per, l, Sp.zero⟩
  have hc : Pl.chk ⟨1, per, l, x⟩ = if (decide (l < 0) || !Pl.eqB ⟨1, per, l, x⟩ ⟨1, per, l, Sp.zero⟩) = true then 1 else 0 := by
    unfold Pl.chk Pl.only
    simp [h0]
  have tp : ((per : Int) == 0) = false := by simpa using h0
  clear h0
  have HC := Lib.hid hc
  clear hc
  generalize Pl.eqB ⟨1, per, l, x⟩ ⟨1, per, l, Sp.zero⟩ = q at *
  cases hl : decide (l < 0) <;> rw [hl] at HC
  · cases q
    · go_enter Tryd.func16, Tryd.ntmps16
      go_wp2_with fail
      go_region
      all_goals go_wp2_with fail
      all_goals go_ret
      all_goals exact ⟨by rw [HC.out]; rfl, (((Fr.refl _ w).alloc _).alloc _).drew⟩
    · go_enter Tryd.func16, Tryd.ntmps16
      go_wp2_with fail
      go_region
      all_goals go_wp2_with fail
      all_goals
        refine (HS.out _).mono ?_
        rintro e w1 ⟨rfl, f1⟩
        have k1 := (((Bk.new w [.int .i64 1, .int .u64 per, .int .i64 l, .int .u64 x.mi, .bool x.s0, .int .u64 x.ho, .bool x.s1, .int .u64 x.da, .bool x.s2, .int .u64 x.mo, .bool x.s3, .int .u64 x.we, .bool x.s4] 28).al (.cells #[.int .i64 1, .int .u64 per, .int .i64 l, .int .u64 0, .bool false, .int .u64 0, .bool false, .int .u64 0, .bool false, .int .u64 0, .bool false, .int .u64 0, .bool false] 28)).drew).fr0 f1
        have c0 := k1.cell 0 rfl
        have HF := Lib.hid f1
        clear f1 k1
        go_wp2_with fail
        all_goals go_ret
        all_goals exact ⟨by rw [HC.out]; rfl, ((((Fr.refl _ w).alloc _).alloc _).drew).tr HF.out⟩
  · go_enter Tryd.func16, Tryd.ntmps16
    go_wp2_with fail
    go_region
    all_goals go_wp2_with fail
    all_goals go_ret
    all_goals exact ⟨by rw [HC.out]; rfl, (((Fr.refl _ w).alloc _).alloc _).drew⟩
set_option maxRecDepth 8000 in
set_option maxHeartbeats 4000000 in
theorem rcheck_cron (per : Nat) (l : Int) (x : Sp) (w : World) : Calls Tryd.prog 16 #[.agg #[.int .i64 2, .int .u64 per, .int .i64 l, .int .u64 x.mi, .bool x.s0, .int .u64 x.ho, .bool x.s1, .int .u64 x.da, .bool x.s2, .int .u64 x.mo, .bool x.s3, .int .u64 x.we, .bool x.s4]] w fun e w' => RChk ⟨2, per, l, x⟩ w e w' := by
  have HS := fun w => scheck_any x w
  have ne : ∀ w, (binOp .neq 28 (.agg #[.int .i64 2, .int .u64 per, .int .i64 l, .int .u64 x.mi, .bool x.s0, .int .u64 x.ho, .bool x.s1, .int .u64 x.da, .bool x.s2, .int .u64 x.mo, .bool x.s3, .int .u64 x.we, .bool x.s4]) (.agg #[.int .i64 2, .int .u64 0, .int .i64 0, .int .u64 x.mi, .bool x.s0, .int .u64 x.ho, .bool x.s1, .int .u64 x.da, .bool x.s2, .int .u64 x.mo, .bool x.s3, .int .u64 x.we, .bool x.s4])).run Tryd.prog w = .ok (.bool (!Pl.eqB ⟨2, per, l, x⟩ ⟨2, 0, 0, x⟩)) w := fun w => neq_plan w ⟨2, per, l, x⟩ ⟨2, 0, 0, x⟩
  have hc : Pl.chk ⟨2, per, l, x⟩ = if (decide (l < 0) || !Pl.eqB ⟨2, per, l, x⟩ ⟨2, 0, 0, x⟩) = true then 1 else (if x.ok = false then 2 else 0) := by
    unfold Pl.chk Pl.only
    simp
  have HC := Lib.hid hc
  clear hc
  generalize Pl.eqB ⟨2, per, l, x⟩ ⟨2, 0, 0, x⟩ = q at *
  cases hl : decide (l < 0) <;> rw [hl] at HC
  · cases q
    · go_enter Tryd.func16, Tryd.ntmps16
      go_wp2_with fail
      go_ret
      exact ⟨by rw [HC.out]; rfl, ((Fr.refl _ w).alloc _).alloc _⟩
    · unfold SCheck at HS
      cases hb : x.ok <;> rw [hb] at HS HC
      all_goals
        have HSS := Lib.hid HS
        clear HS hb
        go_enter Tryd.func16, Tryd.ntmps16
        go_wp2_with fail
        refine (HSS.out _).mono ?_
        rintro e w1 ⟨rfl, f1⟩
        have k1 := ((Bk.new w [.int .i64 2, .int .u64 per, .int .i64 l, .int .u64 x.mi, .bool x.s0, .int .u64 x.ho, .bool x.s1, .int .u64 x.da, .bool x.s2, .int .u64 x.mo, .bool x.s3, .int .u64 x.we, .bool x.s4] 28).al _).fr0 f1
        have c0 := k1.cell 0 rfl
        have HF := Lib.hid f1
        clear f1 k1
        go_wp2_with fail
        go_ret
        exact ⟨by rw [HC.out]; rfl, (((Fr.refl _ w).alloc _).alloc _).tr HF.out⟩
  · go_enter Tryd.func16, Tryd.ntmps16
    go_wp2_with fail
    go_ret
    exact ⟨by rw [HC.out]; rfl, ((Fr.refl _ w).alloc _).alloc _⟩
theorem rchk_any (p : Pl) (w : World) : Calls Tryd.prog 16 #[.agg p.cs.toArray] w fun e w' => RChk p w e w' := by
  by_cases h : p.kind < 0 ∨ 2 < p.kind
  · exact rcheck_kind p w h
  · obtain ⟨k, per, l, x⟩ := p
    dsimp only at h
    rcases (by omega : k = 0 ∨ k = 1 ∨ k = 2) with rfl | rfl | rfl
    · exact rcheck_once per l x w
    · by_cases h0 : per = 0
      · subst h0
        exact rcheck_period l x w
      · exact rcheck_every per l x w h0
    · exact rcheck_cron per l x w
end Go.Proofs.YtnjfefbeemicaaaDoor
