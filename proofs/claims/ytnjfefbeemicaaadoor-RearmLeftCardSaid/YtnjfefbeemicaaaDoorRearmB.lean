/-
  rearm: the minute of a tick; when a plan fires.
-/
import Derived.Test.YtnjfefbeemicaaaDoorRearmA
import Derived.Test.YtnjfefbeemicaaaDoorTick
import Derived.Test.YtnjfefbeemicaaaDoorNxtD
import Derived.Test.YtnjfefbeemicaaaDoorMaps
namespace Go.Proofs.YtnjfefbeemicaaaDoor
open Go.RowKit Go.Shelf

def minR (t : Nat) : Int := if 541727999 < t / 60 then 0 else (t / 60 : Nat)
def minO (t : Nat) : Bool := !decide (541727999 < t / 60)
theorem minute_any (t : Nat) (w : World) (ht : t < 18446744073709551616) : Calls Tryd.prog 14 #[.int .u64 t] w fun e w' => e = .returned (.tuple #[.int .i64 (minR t), .bool (minO t)]) ∧ w' = w := by
  have hq : ((t : Int) / 60) = ((t / 60 : Nat) : Int) := by simp
  unfold minR minO
  have hm : t / 60 ≤ 307445734561825860 := by omega
  obtain ⟨M, hM⟩ : ∃ M, M = t / 60 := ⟨_, rfl⟩
  rw [← hM] at hq hm ⊢
  clear hM
  by_cases h : 541727999 < M
  · have t1 : decide (541727999 < M) = true := by simpa using h
    have t2 : decide ((541727999 : Int) < M) = true := by simp; omega
    rw [if_pos h, t1]
    clear h
    go_enter Tryd.func14, Tryd.ntmps14
    go_wp2_with fail
    go_ret2
    exact ⟨rfl, rfl⟩
  · have t1 : decide (541727999 < M) = false := by simpa using h
    have t2 : decide ((541727999 : Int) < M) = false := by simp; omega
    rw [if_neg h, t1]
    clear h
    go_enter Tryd.func14, Tryd.ntmps14
    go_wp2_with fail
    go_ret2
    exact ⟨rfl, rfl⟩
theorem soonp_any (p : Pl) (now d : Nat) (w : World) (hn : now < 18446744073709551616) (hd : d < 18446744073709551616) : Calls Tryd.prog 31 #[.agg p.cs.toArray, .int .u64 now, .int .u64 d] w fun e w' => e = .returned (.tuple #[.int .u64 (addN now d), .int .i64 0]) ∧ Fr (fun _ => False) w w' := by
  have HA := Lib.hid (fun w => tadd_any now d w hn hd)
  clear hn hd
  generalize addN now d = S at *
  generalize addO now d = B at *
  go_enter Tryd.func31, Tryd.ntmps31
  go_wp2_with fail
  refine (HA.out _).mono ?_
  rintro e w1 ⟨rfl, rfl⟩
  go_wp2_with fail
  go_ret2
  exact ⟨rfl, (Fr.refl _ w).alloc _⟩
theorem Pl.chk_ok {per : Nat} {l : Int} {x : Sp} (h : Pl.chk ⟨2, per, l, x⟩ = 0) : x.ok = true := by
  unfold Pl.chk at h
  cases hx : x.ok
  · simp [hx] at h
    split at h <;> omega
  · rfl
theorem NextIs.bounds {x : Sp} {s : Nat} {r k : Int} (h : NextIs x s r k) : 0 ≤ r ∧ r ≤ 541727999 := by
  rcases h with ⟨_, n, rfl, _, h, _⟩ | ⟨_, rfl, _⟩ <;> omega
theorem NextIs.over {x : Sp} {s : Nat} (h : 541727999 < s) : NextIs x s 0 11 := .inr ⟨rfl, rfl, fun k h1 h2 => by omega⟩
def MatC (x : Sp) (now : Nat) (w : World) (e : Ending) (w' : World) : Prop := ∃ r k, e = .returned (.tuple #[.int .u64 (r * 60), .int .i64 k]) ∧ NextIs x (now / 60 + 1) r k ∧ Fr (fun _ => False) w w'
set_option maxHeartbeats 1000000 in
theorem matched_any (p : Pl) (now d : Nat) (w : World) (hn : now < 18446744073709551616) (hx : p.x.Wf) (hok : p.x.ok = true) (hT : TB w) : Calls Tryd.prog 32 #[.agg p.cs.toArray, .int .u64 now, .int .u64 d] w fun e w' => MatC p.x now w e w' := by
  have HM := fun w => minute_any now w hn
  have f0 : Fr (fun _ => False) w (w.alloc (.cells p.cs.toArray 58)) := (Fr.refl _ w).alloc _
  have HF0 := Lib.hid f0
  have HT := Lib.hid (hT.fr f0)
  clear f0 hT hn
  unfold minR minO at HM
  by_cases h : 541727999 < now / 60
  · have HN := Lib.hid (NextIs.over (x := p.x) (s := now / 60 + 1) (by omega))
    have t1 : decide (541727999 < now / 60) = true := by simpa using h
    simp only [if_pos h, t1] at HM
    have HMM := Lib.hid HM
    clear HM h t1 hx hok
    go_enter Tryd.func32, Tryd.ntmps32
    go_wp2_with fail
    refine (HMM.out _).mono ?_
    rintro e w1 ⟨rfl, rfl⟩
    go_wp2_with fail
    go_ret2
    exact ⟨0, 11, rfl, HN.out, HF0.out⟩
  · have t1 : decide (541727999 < now / 60) = false := by simpa using h
    simp only [if_neg h, t1] at HM
    have HNX : ∀ w, TB w → Calls Tryd.prog 75 #[.agg p.x.cs.toArray, .int .i64 (now / 60 : Nat)] w fun e w' => NextC p.x (now / 60 + 1) w e w' := fun w hT => by
      by_cases h' : now / 60 < 541727999
      · exact next_ok p.x (now / 60) w hx hok h' hT
      · refine (next_over p.x _ w hok (by omega)).mono ?_
        rintro e w' ⟨rfl, f⟩
        exact ⟨0, 11, rfl, NextIs.over (by omega), f⟩
    have HNN := Lib.hid HNX
    have HMM := Lib.hid HM
    clear HM h t1 hx hok HNX
    obtain ⟨M, hM⟩ : ∃ M, M = now / 60 := ⟨_, rfl⟩
    rw [← hM] at HNN HMM
    have HQ := Lib.hid hM
    clear hM
    go_enter Tryd.func32, Tryd.ntmps32
    go_wp2_with fail
    refine (HMM.out _).mono ?_
    rintro e w1 ⟨rfl, rfl⟩
    go_wp2_with fail
    refine (HNN.out _ HT.out).mono ?_
    rintro e w2 ⟨r, k, rfl, hr, f2⟩
    obtain ⟨hr0, hr1⟩ := hr.bounds
    have HR := Lib.hid (And.intro hr (HF0.out.tr f2))
    clear hr f2
    go_wp2_with fail
    go_ret2
    exact ⟨r, k, rfl, by rw [← HQ.out]; exact HR.out.1, HR.out.2⟩
theorem insF0 (w : World) : (Instr.mapUpdate 59 (.map (some w.heap.size)) (.int .i64 0) (.func (.func 31) #[] #[])).run Tryd.prog (w.alloc (.map #[] 0)) = .ok () (w.alloc (.map #[{ key := .int .i64 0, val := .func (.func 31) #[] #[], born := 0 }] 1)) := ins_new w #[] 0 0 _ Tryd.underlying59 Tryd.underlying3 rfl
theorem insF1 (w : World) : (Instr.mapUpdate 59 (.map (some w.heap.size)) (.int .i64 1) (.func (.func 31) #[] #[])).run Tryd.prog (w.alloc (.map #[{ key := .int .i64 0, val := .func (.func 31) #[] #[], born := 0 }] 1)) = .ok () (w.alloc (.map #[{ key := .int .i64 0, val := .func (.func 31) #[] #[], born := 0 }, { key := .int .i64 1, val := .func (.func 31) #[] #[], born := 1 }] 2)) := ins_new w #[{ key := .int .i64 0, val := .func (.func 31) #[] #[], born := 0 }] 1 1 _ Tryd.underlying59 Tryd.underlying3 rfl
theorem insF2 (w : World) : (Instr.mapUpdate 59 (.map (some w.heap.size)) (.int .i64 2) (.func (.func 32) #[] #[])).run Tryd.prog (w.alloc (.map #[{ key := .int .i64 0, val := .func (.func 31) #[] #[], born := 0 }, { key := .int .i64 1, val := .func (.func 31) #[] #[], born := 1 }] 2)) = .ok () (w.alloc (.map #[{ key := .int .i64 0, val := .func (.func 31) #[] #[], born := 0 }, { key := .int .i64 1, val := .func (.func 31) #[] #[], born := 1 }, { key := .int .i64 2, val := .func (.func 32) #[] #[], born := 2 }] 3)) := ins_new w #[{ key := .int .i64 0, val := .func (.func 31) #[] #[], born := 0 }, { key := .int .i64 1, val := .func (.func 31) #[] #[], born := 1 }] 2 2 _ Tryd.underlying59 Tryd.underlying3 rfl
theorem lookF0 (w : World) : (Instr.lookup 59 (.map (some w.heap.size)) (.int .i64 0) false).run Tryd.prog (w.alloc (.map #[{ key := .int .i64 0, val := .func (.func 31) #[] #[], born := 0 }, { key := .int .i64 1, val := .func (.func 31) #[] #[], born := 1 }, { key := .int .i64 2, val := .func (.func 32) #[] #[], born := 2 }] 3)) = .ok (.func (.func 31) #[] #[]) (w.alloc (.map #[{ key := .int .i64 0, val := .func (.func 31) #[] #[], born := 0 }, { key := .int .i64 1, val := .func (.func 31) #[] #[], born := 1 }, { key := .int .i64 2, val := .func (.func 32) #[] #[], born := 2 }] 3)) := look_new w #[{ key := .int .i64 0, val := .func (.func 31) #[] #[], born := 0 }, { key := .int .i64 1, val := .func (.func 31) #[] #[], born := 1 }, { key := .int .i64 2, val := .func (.func 32) #[] #[], born := 2 }] 3 0 0 _ Tryd.underlying59 Tryd.underlying3 rfl
theorem lookF1 (w : World) : (Instr.lookup 59 (.map (some w.heap.size)) (.int .i64 1) false).run Tryd.prog (w.alloc (.map #[{ key := .int .i64 0, val := .func (.func 31) #[] #[], born := 0 }, { key := .int .i64 1, val := .func (.func 31) #[] #[], born := 1 }, { key := .int .i64 2, val := .func (.func 32) #[] #[], born := 2 }] 3)) = .ok (.func (.func 31) #[] #[]) (w.alloc (.map #[{ key := .int .i64 0, val := .func (.func 31) #[] #[], born := 0 }, { key := .int .i64 1, val := .func (.func 31) #[] #[], born := 1 }, { key := .int .i64 2, val := .func (.func 32) #[] #[], born := 2 }] 3)) := look_new w #[{ key := .int .i64 0, val := .func (.func 31) #[] #[], born := 0 }, { key := .int .i64 1, val := .func (.func 31) #[] #[], born := 1 }, { key := .int .i64 2, val := .func (.func 32) #[] #[], born := 2 }] 3 1 1 _ Tryd.underlying59 Tryd.underlying3 rfl
theorem lookF2 (w : World) : (Instr.lookup 59 (.map (some w.heap.size)) (.int .i64 2) false).run Tryd.prog (w.alloc (.map #[{ key := .int .i64 0, val := .func (.func 31) #[] #[], born := 0 }, { key := .int .i64 1, val := .func (.func 31) #[] #[], born := 1 }, { key := .int .i64 2, val := .func (.func 32) #[] #[], born := 2 }] 3)) = .ok (.func (.func 32) #[] #[]) (w.alloc (.map #[{ key := .int .i64 0, val := .func (.func 31) #[] #[], born := 0 }, { key := .int .i64 1, val := .func (.func 31) #[] #[], born := 1 }, { key := .int .i64 2, val := .func (.func 32) #[] #[], born := 2 }] 3)) := look_new w #[{ key := .int .i64 0, val := .func (.func 31) #[] #[], born := 0 }, { key := .int .i64 1, val := .func (.func 31) #[] #[], born := 1 }, { key := .int .i64 2, val := .func (.func 32) #[] #[], born := 2 }] 3 2 2 _ Tryd.underlying59 Tryd.underlying3 rfl
/-- When it fires. -/
def FirC (p : Pl) (now d : Nat) (w : World) (e : Ending) (w' : World) : Prop := ∃ t k, e = .returned (.tuple #[.int .u64 t, .int .i64 k]) ∧ Fr (fun _ => False) w w' ∧
  (p.chk ≠ 0 → t = 0 ∧ k = p.chk) ∧ (p.chk = 0 → p.kind ≠ 2 → t = addN now d ∧ k = 0) ∧ (p.chk = 0 → p.kind = 2 → ∃ r, t = r * 60 ∧ NextIs p.x (now / 60 + 1) r k)
set_option maxRecDepth 100000 in
set_option maxHeartbeats 1000000 in
theorem rfirst_once (per now d : Nat) (l : Int) (x : Sp) (w : World) (hc : Pl.chk ⟨0, per, l, x⟩ = 0) (hn : now < 18446744073709551616) (hd : d < 18446744073709551616) : Calls Tryd.prog 12 #[.agg (Pl.cs ⟨0, per, l, x⟩).toArray, .int .u64 now, .int .u64 d] w fun e w' => FirC ⟨0, per, l, x⟩ now d w e w' := by
  have HC := fun w => rchk_any ⟨0, per, l, x⟩ w
  unfold RChk at HC
  rw [hc] at HC
  have HCC := Lib.hid HC
  have HSN := Lib.hid (fun w => soonp_any ⟨0, per, l, x⟩ now d w hn hd)
  have HK := Lib.hid hc
  have f0 : Fr (fun _ => False) w (w.alloc (.cells (Pl.cs ⟨0, per, l, x⟩).toArray 28)) := (Fr.refl _ w).alloc _
  have HF0 := Lib.hid f0
  have hmm := @run_makeMap Tryd.prog
  have i0 := insF0
  have i1 := insF1
  have i2 := insF2
  have l0 := lookF0
  clear HC hc f0 hn hd
  go_enter Tryd.func12, Tryd.ntmps12
  go_wp2_with fail
  refine (HCC.out _).mono ?_
  rintro e w1 ⟨rfl, f1⟩
  have k1 := (Bk.new w (Pl.cs ⟨0, per, l, x⟩) 28).fr0 f1
  have a0 := k1.cell 0 rfl
  have a1 := k1.cell 1 rfl
  have a2 := k1.cell 2 rfl
  have a3 := k1.cell 3 rfl
  have a4 := k1.cell 4 rfl
  have a5 := k1.cell 5 rfl
  have a6 := k1.cell 6 rfl
  have a7 := k1.cell 7 rfl
  have a8 := k1.cell 8 rfl
  have a9 := k1.cell 9 rfl
  have a10 := k1.cell 10 rfl
  have a11 := k1.cell 11 rfl
  have a12 := k1.cell 12 rfl
  have hlt := k1.lt
  have HF := Lib.hid (HF0.out.tr f1)
  clear f1 k1
  go_wp2_with fail
  refine (HSN.out _).mono ?_
  rintro e w2 ⟨rfl, f2⟩
  have HF2 := Lib.hid ((HF.out.alloc _).tr f2)
  clear f2
  go_wp2_with fail
  go_ret2
  exact ⟨_, _, rfl, HF2.out, fun h => absurd HK.out h, fun _ _ => ⟨rfl, rfl⟩, fun _ h => by cases h⟩
set_option maxRecDepth 100000 in
set_option maxHeartbeats 1000000 in
theorem rfirst_every (per now d : Nat) (l : Int) (x : Sp) (w : World) (hc : Pl.chk ⟨1, per, l, x⟩ = 0) (hn : now < 18446744073709551616) (hd : d < 18446744073709551616) : Calls Tryd.prog 12 #[.agg (Pl.cs ⟨1, per, l, x⟩).toArray, .int .u64 now, .int .u64 d] w fun e w' => FirC ⟨1, per, l, x⟩ now d w e w' := by
  have HC := fun w => rchk_any ⟨1, per, l, x⟩ w
  unfold RChk at HC
  rw [hc] at HC
  have HCC := Lib.hid HC
  have HSN := Lib.hid (fun w => soonp_any ⟨1, per, l, x⟩ now d w hn hd)
  have HK := Lib.hid hc
  have f0 : Fr (fun _ => False) w (w.alloc (.cells (Pl.cs ⟨1, per, l, x⟩).toArray 28)) := (Fr.refl _ w).alloc _
  have HF0 := Lib.hid f0
  have hmm := @run_makeMap Tryd.prog
  have i0 := insF0
  have i1 := insF1
  have i2 := insF2
  have l0 := lookF1
  clear HC hc f0 hn hd
  go_enter Tryd.func12, Tryd.ntmps12
  go_wp2_with fail
  refine (HCC.out _).mono ?_
  rintro e w1 ⟨rfl, f1⟩
  have k1 := (Bk.new w (Pl.cs ⟨1, per, l, x⟩) 28).fr0 f1
  have a0 := k1.cell 0 rfl
  have a1 := k1.cell 1 rfl
  have a2 := k1.cell 2 rfl
  have a3 := k1.cell 3 rfl
  have a4 := k1.cell 4 rfl
  have a5 := k1.cell 5 rfl
  have a6 := k1.cell 6 rfl
  have a7 := k1.cell 7 rfl
  have a8 := k1.cell 8 rfl
  have a9 := k1.cell 9 rfl
  have a10 := k1.cell 10 rfl
  have a11 := k1.cell 11 rfl
  have a12 := k1.cell 12 rfl
  have hlt := k1.lt
  have HF := Lib.hid (HF0.out.tr f1)
  clear f1 k1
  go_wp2_with fail
  refine (HSN.out _).mono ?_
  rintro e w2 ⟨rfl, f2⟩
  have HF2 := Lib.hid ((HF.out.alloc _).tr f2)
  clear f2
  go_wp2_with fail
  go_ret2
  exact ⟨_, _, rfl, HF2.out, fun h => absurd HK.out h, fun _ _ => ⟨rfl, rfl⟩, fun _ h => by cases h⟩
set_option maxRecDepth 100000 in
set_option maxHeartbeats 1000000 in
theorem rfirst_cron (per now d : Nat) (l : Int) (x : Sp) (w : World) (hc : Pl.chk ⟨2, per, l, x⟩ = 0) (hn : now < 18446744073709551616) (_hd : d < 18446744073709551616) (hx : x.Wf) (hT : TB w) : Calls Tryd.prog 12 #[.agg (Pl.cs ⟨2, per, l, x⟩).toArray, .int .u64 now, .int .u64 d] w fun e w' => FirC ⟨2, per, l, x⟩ now d w e w' := by
  have HC := fun w => rchk_any ⟨2, per, l, x⟩ w
  unfold RChk at HC
  rw [hc] at HC
  have HCC := Lib.hid HC
  have HSN := Lib.hid (fun w hT => matched_any ⟨2, per, l, x⟩ now d w hn hx (Pl.chk_ok hc) hT)
  have HT := Lib.hid hT
  have HK := Lib.hid hc
  have f0 : Fr (fun _ => False) w (w.alloc (.cells (Pl.cs ⟨2, per, l, x⟩).toArray 28)) := (Fr.refl _ w).alloc _
  have HF0 := Lib.hid f0
  have hmm := @run_makeMap Tryd.prog
  have i0 := insF0
  have i1 := insF1
  have i2 := insF2
  have l0 := lookF2
  clear HC hc f0 hn
  go_enter Tryd.func12, Tryd.ntmps12
  go_wp2_with fail
  refine (HCC.out _).mono ?_
  rintro e w1 ⟨rfl, f1⟩
  have k1 := (Bk.new w (Pl.cs ⟨2, per, l, x⟩) 28).fr0 f1
  have a0 := k1.cell 0 rfl
  have a1 := k1.cell 1 rfl
  have a2 := k1.cell 2 rfl
  have a3 := k1.cell 3 rfl
  have a4 := k1.cell 4 rfl
  have a5 := k1.cell 5 rfl
  have a6 := k1.cell 6 rfl
  have a7 := k1.cell 7 rfl
  have a8 := k1.cell 8 rfl
  have a9 := k1.cell 9 rfl
  have a10 := k1.cell 10 rfl
  have a11 := k1.cell 11 rfl
  have a12 := k1.cell 12 rfl
  have hlt := k1.lt
  have HF := Lib.hid (HF0.out.tr f1)
  clear f1 k1
  go_wp2_with fail
  refine (HSN.out _ (HT.out.fr (HF.out.alloc _))).mono ?_
  rintro e w2 ⟨r, k, rfl, hr, f2⟩
  have HF2 := Lib.hid ((HF.out.alloc _).tr f2)
  clear f2
  have HR := Lib.hid hr
  clear hr
  go_wp2_with fail
  go_ret2
  exact ⟨_, _, rfl, HF2.out, fun h => absurd HK.out h, fun _ h => absurd rfl h, fun _ _ => ⟨r, rfl, HR.out⟩⟩
set_option maxRecDepth 100000 in
theorem rfirst_bad (p : Pl) (now d : Nat) (w : World) (hc : p.chk ≠ 0) : Calls Tryd.prog 12 #[.agg p.cs.toArray, .int .u64 now, .int .u64 d] w fun e w' => FirC p now d w e w' := by
  have HC := fun w => rchk_any p w
  unfold RChk at HC
  have t0 : (p.chk != 0) = true := by simpa using hc
  have HCC := Lib.hid HC
  have HK := Lib.hid hc
  have f0 : Fr (fun _ => False) w (w.alloc (.cells p.cs.toArray 28)) := (Fr.refl _ w).alloc _
  have HF0 := Lib.hid f0
  clear HC hc f0
  obtain ⟨c, hcc⟩ : ∃ c, c = p.chk := ⟨_, rfl⟩
  rw [← hcc] at t0 HCC HK
  have HQ := Lib.hid hcc
  clear hcc
  go_enter Tryd.func12, Tryd.ntmps12
  go_wp2_with fail
  refine (HCC.out _).mono ?_
  rintro e w1 ⟨rfl, f1⟩
  have HF := Lib.hid (HF0.out.tr f1)
  clear f1
  go_wp2_with fail
  go_ret2
  exact ⟨_, _, rfl, HF.out, fun _ => ⟨rfl, HQ.out⟩, fun h => absurd (HQ.out.trans h) HK.out, fun h => absurd (HQ.out.trans h) HK.out⟩
theorem rfirst_any (p : Pl) (now d : Nat) (w : World) (hn : now < 18446744073709551616) (hd : d < 18446744073709551616) (hx : p.x.Wf) (hT : TB w) : Calls Tryd.prog 12 #[.agg p.cs.toArray, .int .u64 now, .int .u64 d] w fun e w' => FirC p now d w e w' := by
  by_cases hc : p.chk = 0
  · obtain ⟨k, per, l, x⟩ := p
    have hk : ¬ (k < 0 ∨ 2 < k) := fun h => by unfold Pl.chk at hc; rw [if_pos h] at hc; omega
    rcases (by omega : k = 0 ∨ k = 1 ∨ k = 2) with rfl | rfl | rfl
    · exact rfirst_once per now d l x w hc hn hd
    · exact rfirst_every per now d l x w hc hn hd
    · exact rfirst_cron per now d l x w hc hn hd hx hT
  · exact rfirst_bad p now d w hc
end Go.Proofs.YtnjfefbeemicaaaDoor
