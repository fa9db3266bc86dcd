/-
  The reference's test of a day and of a time: complineref21.On; complineref22.on, at.
-/
import Derived.Test.YtnjfefbeemicaaaDoorRefC
import Derived.Test.YtnjfefbeemicaaaDoorDayC
namespace Go.Proofs.YtnjfefbeemicaaaDoor
open Go.RowKit Go.Shelf

theorem rhas_at (b v : Nat) (v' : Int) (st : Bool) (w : World) (hb : b < 2 ^ 64) (hv : v < 64) (hv' : v' = v) : Calls Tryd.prog 109 #[.agg #[.int .u64 b, .bool st], .int .i64 v'] w fun e w' => e = .returned (.bool (b.testBit v)) ∧ Fr (fun _ => False) w w' := hv' ▸ rhas_ok b v st w hb hv
set_option maxRecDepth 8000 in
set_option maxHeartbeats 4000000 in
theorem ron_any (x : Sp) (m d k : Nat) (m' d' k' : Int) (w : World) (hx : x.Wf) (hm : m < 64) (hd : d < 64) (hk : k < 64) (em : m' = m) (ed : d' = d) (ek : k' = k) :
    Calls Tryd.prog 119 #[.agg x.cs.toArray, .int .i64 m', .int .i64 d', .int .i64 k'] w fun e w' => e = .returned (.bool (x.mo.testBit m && x.on d k)) ∧ Fr (fun _ => False) w w' := by
  have f0 : Fr (fun _ => False) w (w.alloc (.cells x.cs.toArray 26)) := (Fr.refl _ w).alloc _
  have kp := Bk.new w x.cs 26
  have H1 := fun w => rhas_at x.mo m m' x.s3 w hx.mo hm em
  have H2 := fun w => rhas_at x.da d d' x.s2 w hx.da hd ed
  have H3 := fun w => rhas_at x.we k k' x.s4 w hx.we hk ek
  have HP := Lib.hid (And.intro f0 kp)
  clear f0 kp hx hm hd hk em ed ek
  have eon : x.on d k = if x.s2 || x.s4 then x.da.testBit d && x.we.testBit k else x.da.testBit d || x.we.testBit k := rfl
  obtain ⟨R, hR⟩ : ∃ R, x.on d k = R := ⟨_, rfl⟩
  rw [hR]
  rw [eon] at hR
  clear eon
  generalize x.mo.testBit m = B1 at *
  generalize x.da.testBit d = B2 at *
  generalize x.we.testBit k = B3 at *
  have HH1 := Lib.hid H1
  have HH2 := Lib.hid H2
  have HH3 := Lib.hid H3
  have a0 := HP.out.2.cell 6 rfl
  have a1 := HP.out.2.cell 7 rfl
  clear H1 H2 H3
  have HRR := Lib.hid hR
  clear hR
  go_enter Tryd.func119, Tryd.ntmps119
  go_wp2_with fail
  refine (HH1.out _).mono ?_
  rintro e w1 ⟨rfl, f1⟩
  have HP1 := Lib.hid (And.intro (HP.out.1.tr f1) (HP.out.2.fr0 f1))
  clear f1 a0 a1
  have a2 := HP1.out.2.cell 4 rfl
  have a3 := HP1.out.2.cell 5 rfl
  go_wp2_with fail
  refine (HH2.out _).mono ?_
  rintro e w2 ⟨rfl, f2⟩
  have HP2 := Lib.hid (And.intro (HP1.out.1.tr f2) (HP1.out.2.fr0 f2))
  clear f2 a2 a3
  have a4 := HP2.out.2.cell 8 rfl
  have a5 := HP2.out.2.cell 9 rfl
  go_wp2_with fail
  refine (HH3.out _).mono ?_
  rintro e w3 ⟨rfl, f3⟩
  have HP3 := Lib.hid (And.intro (HP2.out.1.tr f3) (HP2.out.2.fr0 f3))
  clear f3 a4 a5
  have a6 := HP3.out.2.cell 5 rfl
  have a7 := HP3.out.2.cell 9 rfl
  cases e2 : x.s2 <;> cases e4 : x.s4 <;> rw [e2] at a6 <;> rw [e4] at a7 <;> cases B1 <;> cases B2 <;> cases B3
  all_goals
    have hR := HRR.out
    rw [e2, e4] at hR
    clear e2 e4
    simp at hR
    subst hR
    go_wp2_with fail
    all_goals go_ret
    all_goals exact ⟨rfl, HP3.out.1⟩
/-- complineref22.on: of a day of the reference. -/
theorem rdon_any (x : Sp) (n y m d : Nat) (w : World) (hx : x.Wf) (hd : IsDate n y m d) : Calls Tryd.prog 79 #[.agg x.cs.toArray, .agg (dcs n y m d).toArray] w fun e w' => e = .returned (.bool (x.day (qOf y m) d)) ∧ Fr (fun _ => False) w w' := by
  have hq := q_of hd
  have hd2 := hd.q
  have hm := hd.m1
  have hl := lq_pos (qOf y m)
  have H1 := fun w => rhas_at x.mo m (m : Int) x.s3 w hx.mo (by omega) rfl
  have H2 := fun w => ron_any x m d ((n + 4) % 7) (m : Int) (d : Int) (((n : Int) + 4) % 7) w hx (by omega) (by omega) (by omega) rfl rfl (by omega)
  have eday : x.day (qOf y m) d = (x.mo.testBit m && x.on d ((n + 4) % 7)) := by
    unfold Sp.day
    rw [hq.2, show (fd (qOf y m) + d + 3) = n + 4 by omega]
  rw [eday]
  have f0 : Fr (fun _ => False) w ((w.alloc (.cells x.cs.toArray 26)).alloc (.cells (dcs n y m d).toArray 125)) := ((Fr.refl _ w).alloc _).alloc _
  have kp := (Bk.new w x.cs 26).al (.cells (dcs n y m d).toArray 125)
  have kq := Bk.new (w.alloc (.cells x.cs.toArray 26)) (dcs n y m d) 125
  rw [World.size_alloc] at kq
  have HP := Lib.hid (And.intro f0 (And.intro kp kq))
  have a0 := kp.cell 6 rfl
  have a1 := kp.cell 7 rfl
  have a2 := kq.cell 2 rfl
  clear f0 kp kq hx hd hq hd2 hm hl eday
  generalize x.on d ((n + 4) % 7) = B2 at *
  cases e1 : x.mo.testBit m <;> rw [e1] at H1 H2
  · have HH1 := Lib.hid H1
    clear H1 H2 e1
    go_enter Tryd.func79, Tryd.ntmps79
    go_wp2_with fail
    refine (HH1.out _).mono ?_
    rintro e w1 ⟨rfl, f1⟩
    have HF := Lib.hid (HP.out.1.tr f1)
    clear f1
    go_wp2_with fail
    go_ret
    exact ⟨rfl, HF.out⟩
  · have HH1 := Lib.hid H1
    have HH2 := Lib.hid H2
    clear H1 H2 e1
    go_enter Tryd.func79, Tryd.ntmps79
    go_wp2_with fail
    refine (HH1.out _).mono ?_
    rintro e w1 ⟨rfl, f1⟩
    have HF := Lib.hid (HP.out.1.tr f1)
    have kp := HP.out.2.1.fr0 f1
    have kq := HP.out.2.2.fr0 f1
    have b0 := kp.cell 0 rfl
    have b1 := kp.cell 1 rfl
    have b2 := kp.cell 2 rfl
    have b3 := kp.cell 3 rfl
    have b4 := kp.cell 4 rfl
    have b5 := kp.cell 5 rfl
    have b6 := kp.cell 6 rfl
    have b7 := kp.cell 7 rfl
    have b8 := kp.cell 8 rfl
    have b9 := kp.cell 9 rfl
    have d0 := kq.cell 0 rfl
    have d2 := kq.cell 2 rfl
    have d3 := kq.cell 3 rfl
    clear f1 kp kq a0 a1 a2
    go_wp2_with fail
    refine (HH2.out _).mono ?_
    rintro e w2 ⟨rfl, f2⟩
    have HF2 := Lib.hid (HF.out.tr f2)
    clear f2
    go_wp2_with fail
    go_ret
    exact ⟨rfl, HF2.out⟩
/-- complineref22.at: of a time of the day. -/
theorem rat_any (x : Sp) (t : Nat) (w : World) (hx : x.Wf) (ht : t < 1440) : Calls Tryd.prog 80 #[.agg x.cs.toArray, .int .i64 t] w fun e w' => e = .returned (.bool (x.at t)) ∧ Fr (fun _ => False) w w' := by
  have H1 := fun w => rhas_at x.ho (t / 60) ((t : Int) / 60) x.s1 w hx.ho (by omega) (by omega)
  have H2 := fun w => rhas_at x.mi (t % 60) ((t : Int) % 60) x.s0 w hx.mi (by omega) (by omega)
  have eat : x.at t = (x.ho.testBit (t / 60) && x.mi.testBit (t % 60)) := rfl
  rw [eat]
  have f0 : Fr (fun _ => False) w (w.alloc (.cells x.cs.toArray 26)) := (Fr.refl _ w).alloc _
  have kp := Bk.new w x.cs 26
  have a0 := kp.cell 2 rfl
  have a1 := kp.cell 3 rfl
  have HP := Lib.hid (And.intro f0 kp)
  clear f0 kp hx eat
  generalize x.mi.testBit (t % 60) = B2 at *
  cases e1 : x.ho.testBit (t / 60) <;> rw [e1] at H1
  · have HH1 := Lib.hid H1
    clear H1 H2 e1
    go_enter Tryd.func80, Tryd.ntmps80
    go_wp2_with fail
    refine (HH1.out _).mono ?_
    rintro e w1 ⟨rfl, f1⟩
    have HF := Lib.hid (HP.out.1.tr f1)
    clear f1
    go_wp2_with fail
    go_ret
    exact ⟨rfl, HF.out⟩
  · have HH1 := Lib.hid H1
    have HH2 := Lib.hid H2
    clear H1 H2 e1
    go_enter Tryd.func80, Tryd.ntmps80
    go_wp2_with fail
    refine (HH1.out _).mono ?_
    rintro e w1 ⟨rfl, f1⟩
    have HF := Lib.hid (HP.out.1.tr f1)
    have kp := HP.out.2.fr0 f1
    have c0 := kp.cell 0 rfl
    have c1 := kp.cell 1 rfl
    clear f1 kp a0 a1
    go_wp2_with fail
    refine (HH2.out _).mono ?_
    rintro e w2 ⟨rfl, f2⟩
    have HF2 := Lib.hid (HF.out.tr f2)
    clear f2
    go_wp2_with fail
    go_ret
    exact ⟨rfl, HF2.out⟩
end Go.Proofs.YtnjfefbeemicaaaDoor
