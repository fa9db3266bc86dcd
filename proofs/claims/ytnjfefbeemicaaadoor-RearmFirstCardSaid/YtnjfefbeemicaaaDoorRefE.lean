/-
  The reference's search: complineref22.Next answers with the least minute that matches.
-/
import Derived.Test.YtnjfefbeemicaaaDoorRefB
import Derived.Test.YtnjfefbeemicaaaDoorRefD
namespace Go.Proofs.YtnjfefbeemicaaaDoor
open Go.RowKit Go.Shelf

/-- No minute matches from s on and ahead of t. -/
def NoHit (x : Sp) (s t : Nat) : Prop := ∀ k, s ≤ k → k < t → ¬ x.hit k
/-- The number at a pointer. -/
def natAt (v : Value) (w : World) : Nat := match v with
  | .pointer (some a) => (match w.cell? a with | some c => (intOf c).toNat | none => 0)
  | _ => 0
theorem natAt_bk {w : World} {b : Nat} {t : TypeId} {n : Int} {k : IntKind} {cs : List Value} (h : Bk w b t (.int k n :: cs)) : natAt (.pointer (some ⟨b, 0, none⟩)) w = n.toNat := by
  have := h.cell 0 rfl
  simp [natAt, this, intOf]
theorem NoHit.day {x : Sp} {s n y m d t : Nat} (h : NoHit x s (n * 1440 + t)) (hd : IsDate n y m d) (hf : x.day (qOf y m) d = false) : NoHit x s ((n + 1) * 1440) := by
  intro k h1 h2 hh
  rcases Nat.lt_or_ge k (n * 1440 + t) with h3 | h3
  · exact h k h1 h3 hh
  · have hq := hd.q
    have := (Sp.hit_iff hq.1 hq.2.1 (n := k) (by omega)).1 hh
    rw [hf] at this
    cases this.1
theorem NoHit.time {x : Sp} {s n y m d t : Nat} (h : NoHit x s (n * 1440 + t)) (hd : IsDate n y m d) (ht : t < 1440) (hf : x.at t = false) : NoHit x s (n * 1440 + (t + 1)) := by
  intro k h1 h2 hh
  rcases Nat.lt_or_ge k (n * 1440 + t) with h3 | h3
  · exact h k h1 h3 hh
  · have hq := hd.q
    have := (Sp.hit_iff hq.1 hq.2.1 (n := k) (by omega)).1 hh
    rw [show k % 1440 = t by omega, hf] at this
    cases this.2
theorem NoHit.found {x : Sp} {s n y m d t : Nat} (h : NoHit x s (n * 1440 + t)) (hs : s ≤ n * 1440 + t) (hn : n ≤ 376199) (hd : IsDate n y m d) (ht : t < 1440) (h1 : x.day (qOf y m) d = true) (h2 : x.at t = true) : NextIs x s ((n : Int) * 1440 + t) 0 := by
  have hq := hd.q
  refine .inl ⟨rfl, n * 1440 + t, by omega, hs, by omega, (Sp.hit_iff hq.1 hq.2.1 (by omega)).2 ⟨h1, by rw [show (n * 1440 + t) % 1440 = t by omega]; exact h2⟩, h⟩
theorem NoHit.zero {x : Sp} {s t : Nat} (h : NoHit x s t) : NoHit x s (t + 0) := h
theorem NoHit.none {x : Sp} {s : Nat} (h : NoHit x s (376200 * 1440)) : NextIs x s 0 11 := .inr ⟨rfl, rfl, fun k h1 h2 => h k h1 (by omega)⟩
theorem rday_at (n : Nat) (n' : Int) (w : World) (h : n ≤ 376199) (e : n' = n) : Calls Tryd.prog 77 #[.int .i64 n'] w fun e w' => RDay n w e w' := e ▸ rday_ok n w h
def RNext (x : Sp) (s : Nat) (w : World) (e : Ending) (w' : World) : Prop := ∃ r k, NextIs x s r k ∧ e = .returned (.tuple #[.int .i64 r, .int .i64 k]) ∧ Fr (fun _ => False) w w'
set_option maxRecDepth 8000 in
set_option maxHeartbeats 4000000 in
theorem rnext_ok (x : Sp) (s : Nat) (w : World) (hx : x.Wf) (hk : x.ok = true) (h0 : 0 < s) (hs : s ≤ 541727999) : Calls Tryd.prog 34 #[.agg x.cs.toArray, .int .i64 ((s : Int) - 1)] w fun e w' => RNext x s w e w' := by
  have f0 : Fr (fun _ => False) w (w.alloc (.cells x.cs.toArray 26)) := (Fr.refl _ w).alloc _
  have kp := Bk.new w x.cs 26
  have a0 := kp.cell 0 rfl
  have a1 := kp.cell 1 rfl
  have a2 := kp.cell 2 rfl
  have a3 := kp.cell 3 rfl
  have a4 := kp.cell 4 rfl
  have a5 := kp.cell 5 rfl
  have a6 := kp.cell 6 rfl
  have a7 := kp.cell 7 rfl
  have a8 := kp.cell 8 rfl
  have a9 := kp.cell 9 rfl
  have HO := Lib.hid (fun w => rodd_any x w hx)
  rw [hk] at HO
  have HX := Lib.hid hx
  have HD := Lib.hid (fun w => rday_at (s / 1440) ((s : Int) / 1440) w (by omega) (by omega))
  have HP := Lib.hid (And.intro f0 kp)
  clear f0 kp hk hx
  have t0 : ¬ (541727999 ≤ (s : Int) - 1) := by omega
  have e1 : max ((s : Int) - 1) (-1) + 1 = (s : Int) := by omega
  go_enter Tryd.func34, Tryd.ntmps34
  go_wp2_with fail
  refine (HO.out _).mono ?_
  rintro e w1 ⟨rfl, f1⟩
  have HP1 := Lib.hid (And.intro (HP.out.1.tr f1) (HP.out.2.fr0 f1))
  clear f1 a0 a1 a2 a3 a4 a5 a6 a7 a8 a9
  go_wp2_with fail
  refine (HD.out _).mono ?_
  rintro e w2 ⟨y, m, d, rfl, hd, f2⟩
  have HQ := Lib.hid (And.intro hd (And.intro ((HP1.out.1.tr f2).alloc (.cells (dcs (s / 1440 : Nat) y m d).toArray 125)) (And.intro ((HP1.out.2.fr0 f2).al (.cells (dcs (s / 1440 : Nat) y m d).toArray 125)) (Bk.new w2 (dcs (s / 1440 : Nat) y m d) 125))))
  clear f2 hd t0 e1
  go_wp2_with fail
  go_loopw [7, 8] (fun tv pd wr => ∃ n t b : Nat, tv = .int .i64 t ∧ pd = .pointer (some ⟨b, 0, none⟩) ∧ n ≤ 376200 ∧ t < 1440 ∧ s ≤ n * 1440 + t ∧ ∃ y m d : Nat, Hid (NoHit x s (n * 1440 + t) ∧ IsDate n y m d ∧ Fr (fun _ => False) w wr ∧ Bk wr w.heap.size 26 x.cs ∧ Bk wr b 125 (dcs n y m d))) (fun _ pd wr => 376200 - natAt pd wr)
  case atStart =>
    refine ⟨s / 1440, s % 1440, w2.heap.size, by simp, rfl, by omega, by omega, by omega, y, m, d, Lib.hid ⟨?_, ?_, ?_⟩⟩
    · intro k h1 h2; omega
    · exact HQ.out.1
    · exact HQ.out.2
  case round =>
    obtain ⟨n, t, b, rfl, rfl, hn, ht, hst, y1, m1, d1, HI⟩ := hrel
    have b0 := HI.out.2.2.2.2.cell 0 rfl
    by_cases hend : n ≤ 376199
    · have t1 : decide (n ≤ 376199) = true := by simpa using hend
      have a0 := HI.out.2.2.2.1.cell 0 rfl
      have a1 := HI.out.2.2.2.1.cell 1 rfl
      have a2 := HI.out.2.2.2.1.cell 2 rfl
      have a3 := HI.out.2.2.2.1.cell 3 rfl
      have a4 := HI.out.2.2.2.1.cell 4 rfl
      have a5 := HI.out.2.2.2.1.cell 5 rfl
      have a6 := HI.out.2.2.2.1.cell 6 rfl
      have a7 := HI.out.2.2.2.1.cell 7 rfl
      have a8 := HI.out.2.2.2.1.cell 8 rfl
      have a9 := HI.out.2.2.2.1.cell 9 rfl
      have b1 := HI.out.2.2.2.2.cell 1 rfl
      have b2 := HI.out.2.2.2.2.cell 2 rfl
      have b3 := HI.out.2.2.2.2.cell 3 rfl
      have HI0 := Lib.hid HI.out.2.2.2.2
      have HAF := Lib.hid (fun w => rafter_ok n y1 m1 d1 w HI.out.2.1 hend)
      have e5 : ((n + 1 : Nat) : Int) = (n : Int) + 1 := by omega
      have HE5 := Lib.hid e5
      clear e5
      have HON := rdon_any x n y1 m1 d1 wr HX.out HI.out.2.1
      cases hday : x.day (qOf y1 m1) d1 <;> rw [hday] at HON
      · have HG := Lib.hid HON
        have HN := Lib.hid (HI.out.1.day HI.out.2.1 hday)
        clear HON hday
        go_wp2_with fail
        refine HG.out.mono ?_
        rintro e w3 ⟨rfl, f3⟩
        have HI3 := Lib.hid (And.intro (HI.out.2.2.1.tr f3) (And.intro (HI.out.2.2.2.1.fr0 f3) (HI.out.2.2.2.2.fr0 f3)))
        clear f3 a0 a1 a2 a3 a4 a5 a6 a7 a8 a9 b0 b1 b2 b3
        obtain ⟨wo, rfl⟩ : ∃ wo : World, wo = wr := ⟨_, rfl⟩
        go_wp2_with fail
        go_loopw [7] (fun tv wx => tv = .int .i64 t ∧ wx = w3) (fun _ _ => 0)
        case atStart => exact ⟨rfl, rfl⟩
        case round =>
          obtain ⟨rfl, rfl⟩ := hrel
          have b0 := HI3.out.2.2.cell 0 rfl
          have b1 := HI3.out.2.2.cell 1 rfl
          have b2 := HI3.out.2.2.cell 2 rfl
          have b3 := HI3.out.2.2.cell 3 rfl
          go_wp2_with fail
          refine (HAF.out _).mono ?_
          rintro e w9 ⟨y2, m2, d2, rfl, hd2, f9⟩
          have kx9 := (HI3.out.2.1.al (.cells (dcs n y1 m1 d1).toArray 125)).fr0 f9
          have kd9 := (Bk.new wr (dcs n y1 m1 d1) 125).fr0 f9
          have fw9 := (HI3.out.1.alloc (.cells (dcs n y1 m1 d1).toArray 125)).tr f9
          have hlt9 : w.heap.size < wr.heap.size := HI3.out.2.1.lt
          have H9 := Lib.hid (And.intro hd2 (And.intro fw9 (And.intro kx9 kd9)))
          clear hd2 fw9 kx9 f9 b0 b1 b2 b3
          have c0 := kd9.cell 0 rfl
          have c1 := kd9.cell 1 rfl
          have c2 := kd9.cell 2 rfl
          have c3 := kd9.cell 3 rfl
          have z0 := kd9.free 0
          have z1 := kd9.free 1
          have z2 := kd9.free 2
          have z3 := kd9.free 3
          clear kd9
          have kN : Bk ((((w9.setCell ⟨wr.heap.size, 0, none⟩ (.int .i64 ((n : Int) + 1))).setCell ⟨wr.heap.size, 1, none⟩ (.int .i64 y2)).setCell ⟨wr.heap.size, 2, none⟩ (.int .i64 m2)).setCell ⟨wr.heap.size, 3, none⟩ (.int .i64 d2)) wr.heap.size 125 (dcs ((n : Int) + 1) y2 m2 d2) := (((H9.out.2.2.2.set 0 _).set 1 _).set 2 _).set 3 _
          have HKN := Lib.hid kN
          have HNA := Lib.hid (natAt_bk kN)
          clear kN
          go_wp2_with fail
          go_roundw
          case rel =>
            refine ⟨n + 1, 0, wr.heap.size, by simp, rfl, by omega, by omega, by omega, y2, m2, d2, Lib.hid ⟨HN.out.zero, H9.out.1, ?_, ?_, ?_⟩⟩
            · exact (((H9.out.2.1.setCell (.inr (by exact Nat.le_of_lt hlt9)) _).setCell (.inr (by exact Nat.le_of_lt hlt9)) _).setCell (.inr (by exact Nat.le_of_lt hlt9)) _).setCell (.inr (by exact Nat.le_of_lt hlt9)) _
            · exact (((H9.out.2.2.1.far (by exact Nat.ne_of_lt hlt9) _).far (by exact Nat.ne_of_lt hlt9) _).far (by exact Nat.ne_of_lt hlt9) _).far (by exact Nat.ne_of_lt hlt9) _
            · rw [HE5.out]; exact HKN.out
          case measure =>
            rw [natAt_bk HI0.out, HNA.out]
            omega
      · have HG := Lib.hid HON
        have HDY := Lib.hid hday
        clear HON hday
        go_wp2_with fail
        refine HG.out.mono ?_
        rintro e w3 ⟨rfl, f3⟩
        have HI3 := Lib.hid (And.intro (HI.out.2.2.1.tr f3) (And.intro (HI.out.2.2.2.1.fr0 f3) (HI.out.2.2.2.2.fr0 f3)))
        clear f3 a0 a1 a2 a3 a4 a5 a6 a7 a8 a9 b0 b1 b2 b3
        obtain ⟨wo, rfl⟩ : ∃ wo : World, wo = wr := ⟨_, rfl⟩
        go_wp2_with fail
        go_loopw [7] (fun tv wx => ∃ t' : Nat, tv = .int .i64 t' ∧ t' ≤ 1440 ∧ s ≤ n * 1440 + t' ∧ Hid (NoHit x s (n * 1440 + t') ∧ (Fr (fun _ => False) w wx ∧ Bk wx w.heap.size 26 x.cs ∧ Bk wx b 125 (dcs n y1 m1 d1)))) (fun tv _ => 1440 - (intOf tv).toNat)
        case atStart => exact ⟨t, rfl, by omega, hst, Lib.hid ⟨HI.out.1, HI3.out⟩⟩
        case round =>
          obtain ⟨t', rfl, ht', hst', HJ⟩ := hrel
          by_cases hlt : t' < 1440
          · have t2 : decide (t' < 1440) = true := by simpa using hlt
            have a0 := HJ.out.2.2.1.cell 0 rfl
            have a1 := HJ.out.2.2.1.cell 1 rfl
            have a2 := HJ.out.2.2.1.cell 2 rfl
            have a3 := HJ.out.2.2.1.cell 3 rfl
            have a4 := HJ.out.2.2.1.cell 4 rfl
            have a5 := HJ.out.2.2.1.cell 5 rfl
            have a6 := HJ.out.2.2.1.cell 6 rfl
            have a7 := HJ.out.2.2.1.cell 7 rfl
            have a8 := HJ.out.2.2.1.cell 8 rfl
            have a9 := HJ.out.2.2.1.cell 9 rfl
            have b0 := HJ.out.2.2.2.cell 0 rfl
            have HAT := rat_any x t' wr HX.out hlt
            have e6 : (n : Int) * 1440 + (t' : Int) ≤ 9223372036854775807 := by omega
            cases hat : x.at t' <;> rw [hat] at HAT
            · have HG4 := Lib.hid HAT
              have HN := Lib.hid (HJ.out.1.time HI.out.2.1 hlt hat)
              clear HAT hat
              go_wp2_with fail
              refine HG4.out.mono ?_
              rintro e w4 ⟨rfl, f4⟩
              have HJ4 := Lib.hid (And.intro (HJ.out.2.1.tr f4) (And.intro (HJ.out.2.2.1.fr0 f4) (HJ.out.2.2.2.fr0 f4)))
              clear f4 a0 a1 a2 a3 a4 a5 a6 a7 a8 a9 b0
              go_wp2_with fail
              go_roundw
              case rel => exact ⟨t' + 1, by go_num, by omega, by omega, Lib.hid ⟨HN.out, HJ4.out⟩⟩
              case measure => simp [intOf]; omega
            · have HG4 := Lib.hid HAT
              have HN := Lib.hid (HJ.out.1.found hst' hend HI.out.2.1 hlt HDY.out hat)
              clear HAT hat
              go_wp2_with fail
              refine HG4.out.mono ?_
              rintro e w4 ⟨rfl, f4⟩
              have HJ4 := Lib.hid (And.intro (HJ.out.2.1.tr f4) (And.intro (HJ.out.2.2.1.fr0 f4) (HJ.out.2.2.2.fr0 f4)))
              have b1 := HJ4.out.2.2.cell 0 rfl
              clear f4 a0 a1 a2 a3 a4 a5 a6 a7 a8 a9 b0
              go_wp2_with fail
              go_ret2
              exact ⟨_, 0, HN.out, rfl, HJ4.out.1⟩
          · have t2 : decide (t' < 1440) = false := by simpa using hlt
            have hN : NoHit x s ((n + 1) * 1440) := fun k h1 h2 => HJ.out.1 k h1 (by omega)
            have HN := Lib.hid hN
            have HI4 := Lib.hid HJ.out.2
            clear hN
            have b0 := HI4.out.2.2.cell 0 rfl
            have b1 := HI4.out.2.2.cell 1 rfl
            have b2 := HI4.out.2.2.cell 2 rfl
            have b3 := HI4.out.2.2.cell 3 rfl
            go_wp2_with fail
            refine (HAF.out _).mono ?_
            rintro e w9 ⟨y2, m2, d2, rfl, hd2, f9⟩
            have kx9 := (HI4.out.2.1.al (.cells (dcs n y1 m1 d1).toArray 125)).fr0 f9
            have kd9 := (Bk.new wr (dcs n y1 m1 d1) 125).fr0 f9
            have fw9 := (HI4.out.1.alloc (.cells (dcs n y1 m1 d1).toArray 125)).tr f9
            have hlt9 : w.heap.size < wr.heap.size := HI4.out.2.1.lt
            have H9 := Lib.hid (And.intro hd2 (And.intro fw9 (And.intro kx9 kd9)))
            clear hd2 fw9 kx9 f9 b0 b1 b2 b3
            have c0 := kd9.cell 0 rfl
            have c1 := kd9.cell 1 rfl
            have c2 := kd9.cell 2 rfl
            have c3 := kd9.cell 3 rfl
            have z0 := kd9.free 0
            have z1 := kd9.free 1
            have z2 := kd9.free 2
            have z3 := kd9.free 3
            clear kd9
            have kN : Bk ((((w9.setCell ⟨wr.heap.size, 0, none⟩ (.int .i64 ((n : Int) + 1))).setCell ⟨wr.heap.size, 1, none⟩ (.int .i64 y2)).setCell ⟨wr.heap.size, 2, none⟩ (.int .i64 m2)).setCell ⟨wr.heap.size, 3, none⟩ (.int .i64 d2)) wr.heap.size 125 (dcs ((n : Int) + 1) y2 m2 d2) := (((H9.out.2.2.2.set 0 _).set 1 _).set 2 _).set 3 _
            have HKN := Lib.hid kN
            have HNA := Lib.hid (natAt_bk kN)
            clear kN
            go_wp2_with fail
            go_roundw
            case rel =>
              refine ⟨n + 1, 0, wr.heap.size, by simp, rfl, by omega, by omega, by omega, y2, m2, d2, Lib.hid ⟨HN.out.zero, H9.out.1, ?_, ?_, ?_⟩⟩
              · exact (((H9.out.2.1.setCell (.inr (by exact Nat.le_of_lt hlt9)) _).setCell (.inr (by exact Nat.le_of_lt hlt9)) _).setCell (.inr (by exact Nat.le_of_lt hlt9)) _).setCell (.inr (by exact Nat.le_of_lt hlt9)) _
              · exact (((H9.out.2.2.1.far (by exact Nat.ne_of_lt hlt9) _).far (by exact Nat.ne_of_lt hlt9) _).far (by exact Nat.ne_of_lt hlt9) _).far (by exact Nat.ne_of_lt hlt9) _
              · rw [HE5.out]; exact HKN.out
            case measure =>
              rw [natAt_bk HI0.out, HNA.out]
              omega
    · have t1 : decide (n ≤ 376199) = false := by simpa using hend
      have hnn : n = 376200 := by omega
      have HN : NoHit x s (376200 * 1440) := by
        intro k h1 h2
        exact HI.out.1 k h1 (by omega)
      have HZ := Lib.hid HN
      clear HN
      go_wp2_with fail
      go_ret2
      exact ⟨0, 11, HZ.out.none, rfl, HI.out.2.2.1⟩
end Go.Proofs.YtnjfefbeemicaaaDoor
