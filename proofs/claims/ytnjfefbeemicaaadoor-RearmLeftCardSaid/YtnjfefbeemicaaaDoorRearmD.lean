/-
  rearm.Again, whole.
-/
import Derived.Test.YtnjfefbeemicaaaDoorRearmC
namespace Go.Proofs.YtnjfefbeemicaaaDoor
open Go.RowKit Go.Shelf

theorem results_mid {P : Program} {fn : Func} {a p b c : Tmp} {ty : TypeId} (h : fn.results = #[.tmp a, .cell p ty, .tmp b, .tmp c]) (tmps : Array Value) (w : World) (g : Nat) (t : TypeId) (cs : List Value) (d : TypeDesc)
    (hp : tmps.getD p undef = .pointer (some ⟨g, 0, none⟩)) (hg : Bk w g t cs)
    (hu : P.underlying ty = some d) (hd : (match d with | .struct _ | .array _ _ => true | _ => false) = true) (hi : (P.info? ty).map (·.size) = some cs.toArray.size) :
    (results fn tmps).run P w = .ok (.tuple #[tmps.getD a undef, .agg cs.toArray, tmps.getD b undef, tmps.getD c undef]) w := by
  have hp' : tmps[p]?.getD undef = .pointer (some ⟨g, 0, none⟩) := by simpa using hp
  simp only [results, h]
  simp [hp', asAddr, run_loadVar_row w g t ty cs.toArray (0, 0) d hg hu hd hi, Result.andThen]
theorem insA0 (w : World) : (Instr.mapUpdate 66 (.map (some w.heap.size)) (.int .i64 0) (.func (.func 37) #[] #[])).run Tryd.prog (w.alloc (.map #[] 0)) = .ok () (w.alloc (.map #[{ key := .int .i64 0, val := .func (.func 37) #[] #[], born := 0 }] 1)) := ins_new w #[] 0 0 _ Tryd.underlying66 Tryd.underlying3 rfl
theorem insA1 (w : World) : (Instr.mapUpdate 66 (.map (some w.heap.size)) (.int .i64 1) (.func (.func 38) #[] #[])).run Tryd.prog (w.alloc (.map #[{ key := .int .i64 0, val := .func (.func 37) #[] #[], born := 0 }] 1)) = .ok () (w.alloc (.map #[{ key := .int .i64 0, val := .func (.func 37) #[] #[], born := 0 }, { key := .int .i64 1, val := .func (.func 38) #[] #[], born := 1 }] 2)) := ins_new w #[{ key := .int .i64 0, val := .func (.func 37) #[] #[], born := 0 }] 1 1 _ Tryd.underlying66 Tryd.underlying3 rfl
theorem insA2 (w : World) : (Instr.mapUpdate 66 (.map (some w.heap.size)) (.int .i64 2) (.func (.func 39) #[] #[])).run Tryd.prog (w.alloc (.map #[{ key := .int .i64 0, val := .func (.func 37) #[] #[], born := 0 }, { key := .int .i64 1, val := .func (.func 38) #[] #[], born := 1 }] 2)) = .ok () (w.alloc (.map #[{ key := .int .i64 0, val := .func (.func 37) #[] #[], born := 0 }, { key := .int .i64 1, val := .func (.func 38) #[] #[], born := 1 }, { key := .int .i64 2, val := .func (.func 39) #[] #[], born := 2 }] 3)) := ins_new w #[{ key := .int .i64 0, val := .func (.func 37) #[] #[], born := 0 }, { key := .int .i64 1, val := .func (.func 38) #[] #[], born := 1 }] 2 2 _ Tryd.underlying66 Tryd.underlying3 rfl
theorem lookA0 (w : World) : (Instr.lookup 66 (.map (some w.heap.size)) (.int .i64 0) false).run Tryd.prog (w.alloc (.map #[{ key := .int .i64 0, val := .func (.func 37) #[] #[], born := 0 }, { key := .int .i64 1, val := .func (.func 38) #[] #[], born := 1 }, { key := .int .i64 2, val := .func (.func 39) #[] #[], born := 2 }] 3)) = .ok (.func (.func 37) #[] #[]) (w.alloc (.map #[{ key := .int .i64 0, val := .func (.func 37) #[] #[], born := 0 }, { key := .int .i64 1, val := .func (.func 38) #[] #[], born := 1 }, { key := .int .i64 2, val := .func (.func 39) #[] #[], born := 2 }] 3)) := look_new w #[{ key := .int .i64 0, val := .func (.func 37) #[] #[], born := 0 }, { key := .int .i64 1, val := .func (.func 38) #[] #[], born := 1 }, { key := .int .i64 2, val := .func (.func 39) #[] #[], born := 2 }] 3 0 0 _ Tryd.underlying66 Tryd.underlying3 rfl
theorem lookA1 (w : World) : (Instr.lookup 66 (.map (some w.heap.size)) (.int .i64 1) false).run Tryd.prog (w.alloc (.map #[{ key := .int .i64 0, val := .func (.func 37) #[] #[], born := 0 }, { key := .int .i64 1, val := .func (.func 38) #[] #[], born := 1 }, { key := .int .i64 2, val := .func (.func 39) #[] #[], born := 2 }] 3)) = .ok (.func (.func 38) #[] #[]) (w.alloc (.map #[{ key := .int .i64 0, val := .func (.func 37) #[] #[], born := 0 }, { key := .int .i64 1, val := .func (.func 38) #[] #[], born := 1 }, { key := .int .i64 2, val := .func (.func 39) #[] #[], born := 2 }] 3)) := look_new w #[{ key := .int .i64 0, val := .func (.func 37) #[] #[], born := 0 }, { key := .int .i64 1, val := .func (.func 38) #[] #[], born := 1 }, { key := .int .i64 2, val := .func (.func 39) #[] #[], born := 2 }] 3 1 1 _ Tryd.underlying66 Tryd.underlying3 rfl
theorem lookA2 (w : World) : (Instr.lookup 66 (.map (some w.heap.size)) (.int .i64 2) false).run Tryd.prog (w.alloc (.map #[{ key := .int .i64 0, val := .func (.func 37) #[] #[], born := 0 }, { key := .int .i64 1, val := .func (.func 38) #[] #[], born := 1 }, { key := .int .i64 2, val := .func (.func 39) #[] #[], born := 2 }] 3)) = .ok (.func (.func 39) #[] #[]) (w.alloc (.map #[{ key := .int .i64 0, val := .func (.func 37) #[] #[], born := 0 }, { key := .int .i64 1, val := .func (.func 38) #[] #[], born := 1 }, { key := .int .i64 2, val := .func (.func 39) #[] #[], born := 2 }] 3)) := look_new w #[{ key := .int .i64 0, val := .func (.func 37) #[] #[], born := 0 }, { key := .int .i64 1, val := .func (.func 38) #[] #[], born := 1 }, { key := .int .i64 2, val := .func (.func 39) #[] #[], born := 2 }] 3 2 2 _ Tryd.underlying66 Tryd.underlying3 rfl

/-- What rearm.Again tells. -/
def AgaC (t : Int) (q : Pl) (m k : Int) (w : World) (e : Ending) (w' : World) : Prop := e = .returned (.tuple #[.int .u64 t, .agg q.cs.toArray, .int .u64 m, .int .i64 k]) ∧ Fr (fun _ => False) w w'
set_option maxRecDepth 100000 in
theorem raga_bad (p : Pl) (a now : Nat) (w : World) (hc : p.chk ≠ 0) : Calls Tryd.prog 18 #[.agg p.cs.toArray, .int .u64 a, .int .u64 now] w fun e w' => AgaC 0 Pl.zero 0 p.chk w e w' := by
  have HC := fun w => rchk_any p w
  unfold RChk at HC
  have t0 : (p.chk != 0) = true := by simpa using hc
  have HCC := Lib.hid HC
  have f0 : Fr (fun _ => False) w ((w.alloc (.cells p.cs.toArray 28)).alloc (.cells Pl.zero.cs.toArray 28)) := ((Fr.refl _ w).alloc _).alloc _
  have kr := Bk.new (w.alloc (.cells p.cs.toArray 28)) Pl.zero.cs 28
  rw [World.size_alloc] at kr
  have HF0 := Lib.hid (And.intro f0 kr)
  clear HC hc f0 kr
  generalize p.chk = c at *
  go_enter Tryd.func18, Tryd.ntmps18
  go_wp2_with fail
  refine (HCC.out _).mono ?_
  rintro e w1 ⟨rfl, f1⟩
  have kr1 := HF0.out.2.fr0 f1
  have b0 := kr1.cell 0 rfl
  have b1 := kr1.cell 1 rfl
  have b2 := kr1.cell 2 rfl
  have b3 := kr1.cell 3 rfl
  have b4 := kr1.cell 4 rfl
  have b5 := kr1.cell 5 rfl
  have b6 := kr1.cell 6 rfl
  have b7 := kr1.cell 7 rfl
  have b8 := kr1.cell 8 rfl
  have b9 := kr1.cell 9 rfl
  have b10 := kr1.cell 10 rfl
  have b11 := kr1.cell 11 rfl
  have b12 := kr1.cell 12 rfl
  have z0 := kr1.free 0
  have z1 := kr1.free 1
  have z2 := kr1.free 2
  have z3 := kr1.free 3
  have z4 := kr1.free 4
  have z5 := kr1.free 5
  have z6 := kr1.free 6
  have z7 := kr1.free 7
  have z8 := kr1.free 8
  have z9 := kr1.free 9
  have z10 := kr1.free 10
  have z11 := kr1.free 11
  have z12 := kr1.free 12
  have hlt := kr1.lt
  have HF := Lib.hid (And.intro (HF0.out.1.tr f1) kr1)
  clear f1 kr1
  go_wp2_with fail
  refine bodyPost_ret (results_mid rfl _ _ (w.heap.size + 1) 28 Pl.zero.cs _ rfl (((((((((((((HF.out.2.set 0 _).set 1 _).set 2 _).set 3 _).set 4 _).set 5 _).set 6 _).set 7 _).set 8 _).set 9 _).set 10 _).set 11 _).set 12 _) Tryd.underlying28 rfl (by kernel_rfl)) rfl ⟨rfl, ?_⟩
  (repeat' refine Fr.setCell ?_ (.inr (by simp)) _)
  exact HF.out.1
set_option maxRecDepth 100000 in
set_option maxHeartbeats 2000000 in
theorem raga_0 (per a now : Nat) (l : Int) (x : Sp) (w : World) (hc : Pl.chk ⟨0, per, l, x⟩ = 0) (hT : TB w) (R : Int → Pl → Int → Int → Prop)
    (h : ∀ w, TB w → Calls Tryd.prog 37 #[.agg (Pl.cs ⟨0, per, l, x⟩).toArray, .int .u64 a, .int .u64 now] w fun e w' => ∃ t q m k, R t q m k ∧ AgC t q m k w e w') :
    Calls Tryd.prog 18 #[.agg (Pl.cs ⟨0, per, l, x⟩).toArray, .int .u64 a, .int .u64 now] w fun e w' => ∃ t q m k, R t q m k ∧ AgaC t q m k w e w' := by
  have HC := fun w => rchk_any ⟨0, per, l, x⟩ w
  unfold RChk at HC
  rw [hc] at HC
  have HCC := Lib.hid HC
  have HSN := Lib.hid h
  have HT := Lib.hid hT
  have f0 : Fr (fun _ => False) w ((w.alloc (.cells (Pl.cs ⟨0, per, l, x⟩).toArray 28)).alloc (.cells Pl.zero.cs.toArray 28)) := ((Fr.refl _ w).alloc _).alloc _
  have kp := (Bk.new w (Pl.cs ⟨0, per, l, x⟩) 28).al (.cells Pl.zero.cs.toArray 28)
  have kr := Bk.new (w.alloc (.cells (Pl.cs ⟨0, per, l, x⟩).toArray 28)) Pl.zero.cs 28
  rw [World.size_alloc] at kr
  have HF0 := Lib.hid (And.intro f0 (And.intro kp kr))
  have hmm := @run_makeMap Tryd.prog
  have i0 := insA0
  have i1 := insA1
  have i2 := insA2
  have l0 := lookA0
  clear HC hc f0 kp kr h hT
  go_enter Tryd.func18, Tryd.ntmps18
  go_wp2_with fail
  refine (HCC.out _).mono ?_
  rintro e w1 ⟨rfl, f1⟩
  have k1 := HF0.out.2.1.fr0 f1
  have a0 := k1.cell 0 rfl
  have a1 := k1.cell 1 rfl
  have a2 := k1.cell 2 rfl
  have a3 := k1.cell 3 rfl
  have a4 := k1.cell 4 rfl
  have a5 := k1.cell 5 rfl
  have a6 := k1.cell 6 rfl
  have a7 := k1.cell 7 rfl
  have a8 := k1.cell 8 rfl
  have a9 := k1.cell 9 rfl
  have a10 := k1.cell 10 rfl
  have a11 := k1.cell 11 rfl
  have a12 := k1.cell 12 rfl
  have hlt := k1.lt
  have HF := Lib.hid (And.intro (HF0.out.1.tr f1) (HF0.out.2.2.fr0 f1))
  have hlt2 := HF.out.2.lt
  clear f1 k1
  go_wp2_with fail
  refine (HSN.out _ (HT.out.fr (HF.out.1.alloc _))).mono ?_
  rintro e w2 ⟨t, q, m, k, hR, rfl, f2⟩
  have HQ := Lib.hid hR
  have kr2 := (HF.out.2.al _).fr0 f2
  have b0 := kr2.cell 0 rfl
  have b1 := kr2.cell 1 rfl
  have b2 := kr2.cell 2 rfl
  have b3 := kr2.cell 3 rfl
  have b4 := kr2.cell 4 rfl
  have b5 := kr2.cell 5 rfl
  have b6 := kr2.cell 6 rfl
  have b7 := kr2.cell 7 rfl
  have b8 := kr2.cell 8 rfl
  have b9 := kr2.cell 9 rfl
  have b10 := kr2.cell 10 rfl
  have b11 := kr2.cell 11 rfl
  have b12 := kr2.cell 12 rfl
  have z0 := kr2.free 0
  have z1 := kr2.free 1
  have z2 := kr2.free 2
  have z3 := kr2.free 3
  have z4 := kr2.free 4
  have z5 := kr2.free 5
  have z6 := kr2.free 6
  have z7 := kr2.free 7
  have z8 := kr2.free 8
  have z9 := kr2.free 9
  have z10 := kr2.free 10
  have z11 := kr2.free 11
  have z12 := kr2.free 12
  have hlt3 := kr2.lt
  have HF2 := Lib.hid (And.intro ((HF.out.1.alloc _).tr f2) kr2)
  clear f2 kr2 hR
  go_wp2_with fail
  go_region
  all_goals go_wp2_with fail
  all_goals
    refine bodyPost_ret (results_mid rfl _ _ (w.heap.size + 1) 28 q.cs _ rfl (Bk.drew ((((((((((((((HF2.out.2.set 0 _).set 1 _).set 2 _).set 3 _).set 4 _).set 5 _).set 6 _).set 7 _).set 8 _).set 9 _).set 10 _).set 11 _).set 12 _).al _)) Tryd.underlying28 rfl (by kernel_rfl)) rfl ⟨t, q, m, k, HQ.out, rfl, ?_⟩
    refine Fr.drew (Fr.alloc ?_ _)
    (repeat' refine Fr.setCell ?_ (.inr (by simp)) _)
    exact HF2.out.1
set_option maxRecDepth 100000 in
set_option maxHeartbeats 2000000 in
theorem raga_1 (per a now : Nat) (l : Int) (x : Sp) (w : World) (hc : Pl.chk ⟨1, per, l, x⟩ = 0) (hT : TB w) (R : Int → Pl → Int → Int → Prop)
    (h : ∀ w, TB w → Calls Tryd.prog 38 #[.agg (Pl.cs ⟨1, per, l, x⟩).toArray, .int .u64 a, .int .u64 now] w fun e w' => ∃ t q m k, R t q m k ∧ AgC t q m k w e w') :
    Calls Tryd.prog 18 #[.agg (Pl.cs ⟨1, per, l, x⟩).toArray, .int .u64 a, .int .u64 now] w fun e w' => ∃ t q m k, R t q m k ∧ AgaC t q m k w e w' := by
  have HC := fun w => rchk_any ⟨1, per, l, x⟩ w
  unfold RChk at HC
  rw [hc] at HC
  have HCC := Lib.hid HC
  have HSN := Lib.hid h
  have HT := Lib.hid hT
  have f0 : Fr (fun _ => False) w ((w.alloc (.cells (Pl.cs ⟨1, per, l, x⟩).toArray 28)).alloc (.cells Pl.zero.cs.toArray 28)) := ((Fr.refl _ w).alloc _).alloc _
  have kp := (Bk.new w (Pl.cs ⟨1, per, l, x⟩) 28).al (.cells Pl.zero.cs.toArray 28)
  have kr := Bk.new (w.alloc (.cells (Pl.cs ⟨1, per, l, x⟩).toArray 28)) Pl.zero.cs 28
  rw [World.size_alloc] at kr
  have HF0 := Lib.hid (And.intro f0 (And.intro kp kr))
  have hmm := @run_makeMap Tryd.prog
  have i0 := insA0
  have i1 := insA1
  have i2 := insA2
  have l0 := lookA1
  clear HC hc f0 kp kr h hT
  go_enter Tryd.func18, Tryd.ntmps18
  go_wp2_with fail
  refine (HCC.out _).mono ?_
  rintro e w1 ⟨rfl, f1⟩
  have k1 := HF0.out.2.1.fr0 f1
  have a0 := k1.cell 0 rfl
  have a1 := k1.cell 1 rfl
  have a2 := k1.cell 2 rfl
  have a3 := k1.cell 3 rfl
  have a4 := k1.cell 4 rfl
  have a5 := k1.cell 5 rfl
  have a6 := k1.cell 6 rfl
  have a7 := k1.cell 7 rfl
  have a8 := k1.cell 8 rfl
  have a9 := k1.cell 9 rfl
  have a10 := k1.cell 10 rfl
  have a11 := k1.cell 11 rfl
  have a12 := k1.cell 12 rfl
  have hlt := k1.lt
  have HF := Lib.hid (And.intro (HF0.out.1.tr f1) (HF0.out.2.2.fr0 f1))
  have hlt2 := HF.out.2.lt
  clear f1 k1
  go_wp2_with fail
  refine (HSN.out _ (HT.out.fr (HF.out.1.alloc _))).mono ?_
  rintro e w2 ⟨t, q, m, k, hR, rfl, f2⟩
  have HQ := Lib.hid hR
  have kr2 := (HF.out.2.al _).fr0 f2
  have b0 := kr2.cell 0 rfl
  have b1 := kr2.cell 1 rfl
  have b2 := kr2.cell 2 rfl
  have b3 := kr2.cell 3 rfl
  have b4 := kr2.cell 4 rfl
  have b5 := kr2.cell 5 rfl
  have b6 := kr2.cell 6 rfl
  have b7 := kr2.cell 7 rfl
  have b8 := kr2.cell 8 rfl
  have b9 := kr2.cell 9 rfl
  have b10 := kr2.cell 10 rfl
  have b11 := kr2.cell 11 rfl
  have b12 := kr2.cell 12 rfl
  have z0 := kr2.free 0
  have z1 := kr2.free 1
  have z2 := kr2.free 2
  have z3 := kr2.free 3
  have z4 := kr2.free 4
  have z5 := kr2.free 5
  have z6 := kr2.free 6
  have z7 := kr2.free 7
  have z8 := kr2.free 8
  have z9 := kr2.free 9
  have z10 := kr2.free 10
  have z11 := kr2.free 11
  have z12 := kr2.free 12
  have hlt3 := kr2.lt
  have HF2 := Lib.hid (And.intro ((HF.out.1.alloc _).tr f2) kr2)
  clear f2 kr2 hR
  go_wp2_with fail
  go_region
  all_goals go_wp2_with fail
  all_goals
    refine bodyPost_ret (results_mid rfl _ _ (w.heap.size + 1) 28 q.cs _ rfl (Bk.drew ((((((((((((((HF2.out.2.set 0 _).set 1 _).set 2 _).set 3 _).set 4 _).set 5 _).set 6 _).set 7 _).set 8 _).set 9 _).set 10 _).set 11 _).set 12 _).al _)) Tryd.underlying28 rfl (by kernel_rfl)) rfl ⟨t, q, m, k, HQ.out, rfl, ?_⟩
    refine Fr.drew (Fr.alloc ?_ _)
    (repeat' refine Fr.setCell ?_ (.inr (by simp)) _)
    exact HF2.out.1
set_option maxRecDepth 100000 in
set_option maxHeartbeats 2000000 in
theorem raga_2 (per a now : Nat) (l : Int) (x : Sp) (w : World) (hc : Pl.chk ⟨2, per, l, x⟩ = 0) (hT : TB w) (R : Int → Pl → Int → Int → Prop)
    (h : ∀ w, TB w → Calls Tryd.prog 39 #[.agg (Pl.cs ⟨2, per, l, x⟩).toArray, .int .u64 a, .int .u64 now] w fun e w' => ∃ t q m k, R t q m k ∧ AgC t q m k w e w') :
    Calls Tryd.prog 18 #[.agg (Pl.cs ⟨2, per, l, x⟩).toArray, .int .u64 a, .int .u64 now] w fun e w' => ∃ t q m k, R t q m k ∧ AgaC t q m k w e w' := by
  have HC := fun w => rchk_any ⟨2, per, l, x⟩ w
  unfold RChk at HC
  rw [hc] at HC
  have HCC := Lib.hid HC
  have HSN := Lib.hid h
  have HT := Lib.hid hT
  have f0 : Fr (fun _ => False) w ((w.alloc (.cells (Pl.cs ⟨2, per, l, x⟩).toArray 28)).alloc (.cells Pl.zero.cs.toArray 28)) := ((Fr.refl _ w).alloc _).alloc _
  have kp := (Bk.new w (Pl.cs ⟨2, per, l, x⟩) 28).al (.cells Pl.zero.cs.toArray 28)
  have kr := Bk.new (w.alloc (.cells (Pl.cs ⟨2, per, l, x⟩).toArray 28)) Pl.zero.cs 28
  rw [World.size_alloc] at kr
  have HF0 := Lib.hid (And.intro f0 (And.intro kp kr))
  have hmm := @run_makeMap Tryd.prog
  have i0 := insA0
  have i1 := insA1
  have i2 := insA2
  have l0 := lookA2
  clear HC hc f0 kp kr h hT
  go_enter Tryd.func18, Tryd.ntmps18
  go_wp2_with fail
  refine (HCC.out _).mono ?_
  rintro e w1 ⟨rfl, f1⟩
  have k1 := HF0.out.2.1.fr0 f1
  have a0 := k1.cell 0 rfl
  have a1 := k1.cell 1 rfl
  have a2 := k1.cell 2 rfl
  have a3 := k1.cell 3 rfl
  have a4 := k1.cell 4 rfl
  have a5 := k1.cell 5 rfl
  have a6 := k1.cell 6 rfl
  have a7 := k1.cell 7 rfl
  have a8 := k1.cell 8 rfl
  have a9 := k1.cell 9 rfl
  have a10 := k1.cell 10 rfl
  have a11 := k1.cell 11 rfl
  have a12 := k1.cell 12 rfl
  have hlt := k1.lt
  have HF := Lib.hid (And.intro (HF0.out.1.tr f1) (HF0.out.2.2.fr0 f1))
  have hlt2 := HF.out.2.lt
  clear f1 k1
  go_wp2_with fail
  refine (HSN.out _ (HT.out.fr (HF.out.1.alloc _))).mono ?_
  rintro e w2 ⟨t, q, m, k, hR, rfl, f2⟩
  have HQ := Lib.hid hR
  have kr2 := (HF.out.2.al _).fr0 f2
  have b0 := kr2.cell 0 rfl
  have b1 := kr2.cell 1 rfl
  have b2 := kr2.cell 2 rfl
  have b3 := kr2.cell 3 rfl
  have b4 := kr2.cell 4 rfl
  have b5 := kr2.cell 5 rfl
  have b6 := kr2.cell 6 rfl
  have b7 := kr2.cell 7 rfl
  have b8 := kr2.cell 8 rfl
  have b9 := kr2.cell 9 rfl
  have b10 := kr2.cell 10 rfl
  have b11 := kr2.cell 11 rfl
  have b12 := kr2.cell 12 rfl
  have z0 := kr2.free 0
  have z1 := kr2.free 1
  have z2 := kr2.free 2
  have z3 := kr2.free 3
  have z4 := kr2.free 4
  have z5 := kr2.free 5
  have z6 := kr2.free 6
  have z7 := kr2.free 7
  have z8 := kr2.free 8
  have z9 := kr2.free 9
  have z10 := kr2.free 10
  have z11 := kr2.free 11
  have z12 := kr2.free 12
  have hlt3 := kr2.lt
  have HF2 := Lib.hid (And.intro ((HF.out.1.alloc _).tr f2) kr2)
  clear f2 kr2 hR
  go_wp2_with fail
  go_region
  all_goals go_wp2_with fail
  all_goals
    refine bodyPost_ret (results_mid rfl _ _ (w.heap.size + 1) 28 q.cs _ rfl (Bk.drew ((((((((((((((HF2.out.2.set 0 _).set 1 _).set 2 _).set 3 _).set 4 _).set 5 _).set 6 _).set 7 _).set 8 _).set 9 _).set 10 _).set 11 _).set 12 _).al _)) Tryd.underlying28 rfl (by kernel_rfl)) rfl ⟨t, q, m, k, HQ.out, rfl, ?_⟩
    refine Fr.drew (Fr.alloc ?_ _)
    (repeat' refine Fr.setCell ?_ (.inr (by simp)) _)
    exact HF2.out.1
end Go.Proofs.YtnjfefbeemicaaaDoor
