/-
  The reference: when a plan fires (complineref23.First).
-/
import Derived.Test.YtnjfefbeemicaaaDoorRefG
namespace Go.Proofs.YtnjfefbeemicaaaDoor
open Go.RowKit Go.Shelf

set_option maxRecDepth 100000 in
set_option maxHeartbeats 1000000 in
theorem rf_bad (p : Pl) (now d : Nat) (w : World) (hc : p.chk ≠ 0) (hx : p.x.Wf) : Calls Tryd.prog 13 #[.agg p.cs.toArray, .int .u64 now, .int .u64 d] w fun e w' => FirC p now d w e w' := by
  have HC := Lib.hid (fun w => rrchk_any p w hx)
  have HK := Lib.hid hc
  have t0 : (p.chk != 0) = true := by simpa using hc
  have f0 : Fr (fun _ => False) w (w.alloc (.cells p.cs.toArray 28)) := (Fr.refl _ w).alloc _
  have kp := Bk.new w p.cs 28
  have a0 := kp.cell 0 rfl
  have a1 := kp.cell 1 rfl
  have a2 := kp.cell 2 rfl
  have a3 := kp.cell 3 rfl
  have a4 := kp.cell 4 rfl
  have a5 := kp.cell 5 rfl
  have a6 := kp.cell 6 rfl
  have a7 := kp.cell 7 rfl
  have a8 := kp.cell 8 rfl
  have a9 := kp.cell 9 rfl
  have a10 := kp.cell 10 rfl
  have a11 := kp.cell 11 rfl
  have a12 := kp.cell 12 rfl
  have HF := Lib.hid f0
  clear f0 kp hc hx
  go_enter Tryd.func13, Tryd.ntmps13
  go_wp2_with (go_at_call 17; refine (HC.out _).mono ?_; rintro e w1 ⟨rfl, f1⟩)
  go_ret2
  exact ⟨0, p.chk, rfl, HF.out.tr f1, fun _ => ⟨rfl, rfl⟩, fun h => absurd h HK.out, fun h => absurd h HK.out⟩
set_option maxRecDepth 100000 in
set_option maxHeartbeats 1000000 in
theorem rf_sum (p : Pl) (now d : Nat) (w : World) (hc : p.chk = 0) (h2 : p.kind ≠ 2) (hx : p.x.Wf) (hn : now < 18446744073709551616) (hd : d < 18446744073709551616) : Calls Tryd.prog 13 #[.agg p.cs.toArray, .int .u64 now, .int .u64 d] w fun e w' => FirC p now d w e w' := by
  have HC := fun w => rrchk_any p w hx
  unfold RChk at HC
  rw [hc] at HC
  have HCC := Lib.hid HC
  have HK := Lib.hid (And.intro hc h2)
  have HA := Lib.hid (fun w => radd_any now d _ _ w hn hd rfl rfl)
  have t0 : (p.kind != 2) = true := by simpa using h2
  have f0 : Fr (fun _ => False) w (w.alloc (.cells p.cs.toArray 28)) := (Fr.refl _ w).alloc _
  have kp := Bk.new w p.cs 28
  have a0 := kp.cell 0 rfl
  have a1 := kp.cell 1 rfl
  have a2 := kp.cell 2 rfl
  have a3 := kp.cell 3 rfl
  have a4 := kp.cell 4 rfl
  have a5 := kp.cell 5 rfl
  have a6 := kp.cell 6 rfl
  have a7 := kp.cell 7 rfl
  have a8 := kp.cell 8 rfl
  have a9 := kp.cell 9 rfl
  have a10 := kp.cell 10 rfl
  have a11 := kp.cell 11 rfl
  have a12 := kp.cell 12 rfl
  have HF := Lib.hid (And.intro f0 kp)
  clear f0 kp hc hx HC h2 hn hd
  go_enter Tryd.func13, Tryd.ntmps13
  go_wp2_with fail
  refine (HCC.out _).mono ?_
  rintro e w1 ⟨rfl, f1⟩
  have b0 := (HF.out.2.fr0 f1).cell 0 rfl
  have HF1 := Lib.hid (HF.out.1.tr f1)
  clear f1
  go_wp2_with (go_at_call 33; refine (HA.out _).mono ?_; rintro e w2 ⟨rfl, rfl⟩)
  go_ret2
  exact ⟨_, _, rfl, HF1.out, fun h => absurd HK.out.1 h, fun _ _ => ⟨rfl, rfl⟩, fun _ h => absurd h HK.out.2⟩
theorem NextIs.cases {x : Sp} {s : Nat} {r k : Int} (h : NextIs x s r k) : (k = 0 ∧ ∃ n : Nat, r = n ∧ n ≤ 541727999) ∨ (k = 11 ∧ r = 0) := by
  rcases h with ⟨h1, n, h2, _, h3, _⟩ | ⟨h1, h2, _⟩
  · exact .inl ⟨h1, n, h2, h3⟩
  · exact .inr ⟨h1, h2⟩
set_option maxRecDepth 100000 in
set_option maxHeartbeats 1000000 in
theorem rf_next (per now d : Nat) (l : Int) (x : Sp) (w : World) (hc : Pl.chk ⟨2, per, l, x⟩ = 0) (hx : x.Wf) (hn : now < 18446744073709551616) : Calls Tryd.prog 13 #[.agg (Pl.cs ⟨2, per, l, x⟩).toArray, .int .u64 now, .int .u64 d] w fun e w' => FirC ⟨2, per, l, x⟩ now d w e w' := by
  have HC := fun w => rrchk_any ⟨2, per, l, x⟩ w hx
  unfold RChk at HC
  rw [hc] at HC
  have HCC := Lib.hid HC
  have hok := Pl.chk_ok hc
  have HK := Lib.hid hc
  have HM := fun w => rminute_any now w hn
  unfold minR minO at HM
  have f0 : Fr (fun _ => False) w (w.alloc (.cells (Pl.cs ⟨2, per, l, x⟩).toArray 28)) := (Fr.refl _ w).alloc _
  have kp := Bk.new w (Pl.cs ⟨2, per, l, x⟩) 28
  have a0 := kp.cell 0 rfl
  have a1 := kp.cell 1 rfl
  have a2 := kp.cell 2 rfl
  have a3 := kp.cell 3 rfl
  have a4 := kp.cell 4 rfl
  have a5 := kp.cell 5 rfl
  have a6 := kp.cell 6 rfl
  have a7 := kp.cell 7 rfl
  have a8 := kp.cell 8 rfl
  have a9 := kp.cell 9 rfl
  have a10 := kp.cell 10 rfl
  have a11 := kp.cell 11 rfl
  have a12 := kp.cell 12 rfl
  have HF := Lib.hid (And.intro f0 kp)
  clear f0 kp hc HC hn
  by_cases h : 541727999 < now / 60
  · have HN := Lib.hid (NextIs.over (x := x) (s := now / 60 + 1) (by omega))
    have t1 : decide (541727999 < now / 60) = true := by simpa using h
    simp only [if_pos h, t1] at HM
    have HMM := Lib.hid HM
    clear HM h t1 hx hok
    go_enter Tryd.func13, Tryd.ntmps13
    go_wp2_with fail
    refine (HCC.out _).mono ?_
    rintro e w1 ⟨rfl, f1⟩
    have b0 := (HF.out.2.fr0 f1).cell 0 rfl
    have HF1 := Lib.hid (HF.out.1.tr f1)
    clear f1
    go_wp2_with (go_at_call 15; refine (HMM.out _).mono ?_; rintro e w2 ⟨rfl, rfl⟩)
    go_ret2
    exact ⟨0, 11, rfl, HF1.out, fun h => absurd HK.out h, fun _ h => absurd rfl h, fun _ _ => ⟨0, rfl, HN.out⟩⟩
  · have t1 : decide (541727999 < now / 60) = false := by simpa using h
    simp only [if_neg h, t1] at HM
    have HMM := Lib.hid HM
    have HNX := Lib.hid (fun w => rnext_any x (now / 60) (now / 60 : Nat) w hx hok (by omega) rfl)
    clear HM h t1 hx hok
    obtain ⟨M, hM⟩ : ∃ M, now / 60 = M := ⟨_, rfl⟩
    rw [hM] at HMM HNX
    have HM2 := Lib.hid hM
    clear hM
    go_enter Tryd.func13, Tryd.ntmps13
    go_wp2_with fail
    refine (HCC.out _).mono ?_
    rintro e w1 ⟨rfl, f1⟩
    have kp1 := HF.out.2.fr0 f1
    have HF1 := Lib.hid (HF.out.1.tr f1)
    have b0 := kp1.cell 0 rfl
    have b3 := kp1.cell 3 rfl
    have b4 := kp1.cell 4 rfl
    have b5 := kp1.cell 5 rfl
    have b6 := kp1.cell 6 rfl
    have b7 := kp1.cell 7 rfl
    have b8 := kp1.cell 8 rfl
    have b9 := kp1.cell 9 rfl
    have b10 := kp1.cell 10 rfl
    have b11 := kp1.cell 11 rfl
    have b12 := kp1.cell 12 rfl
    clear f1 kp1
    go_wp2_with (go_at_call 15; refine (HMM.out _).mono ?_; rintro e w2 ⟨rfl, rfl⟩)
    refine (HNX.out _).mono ?_
    rintro e w3 ⟨r, k, hN, rfl, f3⟩
    have HN := Lib.hid hN
    have HF3 := Lib.hid (HF1.out.tr f3)
    clear f3
    rcases hN.cases with ⟨rfl, n, rfl, hn⟩ | ⟨rfl, rfl⟩
    · have e1 : IntKind.u64.wrap (n : Int) = (n : Int) := by rw [IntKind.wrap_u64]; omega
      have e2 : IntKind.u64.wrap ((n : Int) * 60) = (n : Int) * 60 := by rw [IntKind.wrap_u64]; omega
      clear hN hn
      go_wp2_with fail
      go_ret2
      exact ⟨_, 0, rfl, HF3.out, fun h => absurd HK.out h, fun _ h => absurd rfl h, fun _ _ => ⟨n, rfl, by have := HN.out; rw [← HM2.out] at this; exact this⟩⟩
    · clear hN
      go_wp2_with fail
      go_ret2
      exact ⟨0, 11, rfl, HF3.out, fun h => absurd HK.out h, fun _ h => absurd rfl h, fun _ _ => ⟨0, rfl, by have := HN.out; rw [← HM2.out] at this; exact this⟩⟩
theorem rrfirst_any (p : Pl) (now d : Nat) (w : World) (hn : now < 18446744073709551616) (hd : d < 18446744073709551616) (hx : p.x.Wf) : Calls Tryd.prog 13 #[.agg p.cs.toArray, .int .u64 now, .int .u64 d] w fun e w' => FirC p now d w e w' := by
  by_cases hc : p.chk = 0
  · by_cases h2 : p.kind = 2
    · obtain ⟨k, per, l, x⟩ := p
      obtain rfl : k = 2 := h2
      exact rf_next per now d l x w hc hx hn
    · exact rf_sum p now d w hc h2 hx hn hd
  · exact rf_bad p now d w hc hx
end Go.Proofs.YtnjfefbeemicaaaDoor
