/-
  The walks of the document's own Take and Free, and of the law's handle.
-/
import Derived.Test.YtncpfbffdilpnaaRefC
import Derived.Deep.RegionHeld3
namespace Go.Proofs.Ytncpfbffdilpnaa
open Go.RowKit


theorem reftake_full (uv fv av : Value) (m : Rm) (w : World) (H : Rs w uv fv av m) (hf : m.free = []) (hq : m.places ≤ (m.used.length : Int)) :
    Calls Try.prog 18 #[mval m uv fv av] w fun e w' => e = .returned (.tuple #[mval m uv fv av, .agg #[.int .i64 0, .int .i64 0], .int .i64 6]) ∧ Fr (fun _ => False) w w' := by
  obtain ⟨s1, s2, s3⟩ := H.small
  have hfl : m.free.length = 0 := by rw [hf]; rfl
  have HH := Lib.hid H
  have HF := Lib.hid hf
  have HFL := Lib.hid hfl
  obtain ⟨U, uc, rfl, _, _⟩ := H.ul.form
  obtain ⟨F, fc, rfl, _, _⟩ := H.fl.form
  obtain ⟨A, ac, rfl, _, hac⟩ := H.al.form
  clear H hf hfl
  obtain ⟨i0, hi, hz0, hz1, hz2⟩ := info_parts Try.info3r
  obtain ⟨i1, hi1, hy0, hy3, hy4⟩ := info_parts Try.info41
  unfold mval
  go_enter Try.func18, Try.ntmps18
  go_upto_region 1 with fail
  refine wp_name (fun W0 hW0 => ?_)
  have hF0 : Fr (fun _ => False) w W0 := by rw [hW0]; exact (((Fr.refl _ w).alloc _).alloc _).alloc _
  have hB1 : Bk W0 w.heap.size 31 [.int .i64 m.places, .int .i64 m.gens, .slice U m.used.length uc, .slice F m.free.length fc, .slice A m.alive.length ac] := by rw [hW0]; exact ((Bk.new w _ _).al _).al _
  have hB2 : Bk W0 (w.heap.size + 1) 31 [.int .i64 0, .int .i64 0, .slice none 0 0, .slice none 0 0, .slice none 0 0] := by rw [hW0]; simpa using (Bk.new (w.alloc (.cells #[.int .i64 m.places, .int .i64 m.gens, .slice U m.used.length uc, .slice F m.free.length fc, .slice A m.alive.length ac] 31)) [.int .i64 0, .int .i64 0, .slice none 0 0, .slice none 0 0, .slice none 0 0] 31).al (.cells #[.int .i64 0, .int .i64 0] 41)
  have hB3 : Bk W0 (w.heap.size + 1 + 1) 41 [.int .i64 0, .int .i64 0] := by rw [hW0]; simpa using (Bk.new ((w.alloc (.cells #[.int .i64 m.places, .int .i64 m.gens, .slice U m.used.length uc, .slice F m.free.length fc, .slice A m.alive.length ac] 31)).alloc (.cells #[.int .i64 0, .int .i64 0, .slice none 0 0, .slice none 0 0, .slice none 0 0] 31)) [.int .i64 0, .int .i64 0] 41)
  have hsz : w.heap.size + 3 ≤ W0.heap.size := by rw [hW0]; simp
  have HS0 := Lib.hid (HH.out.fr0 hF0)
  have HF0 := Lib.hid hF0
  have B1 := Lib.hid hB1
  have B2 := Lib.hid hB2
  have B3 := Lib.hid hB3
  have c2 := hB1.cell 2 rfl
  have l1 := hB1.lt
  clear hW0 hF0 hB1 hB2 hB3
  go_wp2_with (at_builtin; refine wpList_append_ow _ rfl _ _ 28 rfl 3 i0 (.int .i64 0) 1 8 Try.underlying28 hi hz0 hz1 hz2 rfl (by decide) _ 0 _ [] rfl (Ow.made _ _ _) _ m.used.length (ic m.used) rfl (HS0.out.ul.al _) (ic_one _) ?l1 ?l2 ?_)
  case l1 => simp [maxLen]; omega
  case l2 => omega
  intro u1 W1 o1 _ f1 b1
  try simp only [Nat.zero_add, List.nil_append] at o1
  have F1 : Fr (fun _ => False) W0 W1 := ((Fr.refl (fun _ => False) W0).alloc _).trans f1 (fun k hk => .inr (by rw [← hk.1]; exact Nat.le_refl _))
  have c3 := (B1.out.fr0 F1).cell 3 rfl
  have l1 := (B1.out.fr0 F1).lt
  obtain ⟨U1, d1, rfl, _, _⟩ := o1.form
  have O1 := Lib.hid o1
  have HF1 := Lib.hid F1
  have BB1 := Lib.hid b1
  clear o1 f1 b1 F1 c2
  go_wp2_with (at_builtin; refine wpList_append_ow _ rfl _ _ 28 rfl 3 i0 (.int .i64 0) 1 8 Try.underlying28 hi hz0 hz1 hz2 rfl (by decide) _ 0 _ [] rfl (Ow.made _ _ _) _ m.free.length (ic m.free) rfl ((HS0.out.fl.fr0 HF1.out).al _) (ic_one _) ?l1 ?l2 ?_)
  case l1 => simp [maxLen]; omega
  case l2 => omega
  intro u2 W2 o2 _ f2 b2
  try simp only [Nat.zero_add, List.nil_append] at o2
  have F2 : Fr (fun _ => False) W1 W2 := ((Fr.refl (fun _ => False) W1).alloc _).trans f2 (fun k hk => .inr (by rw [← hk.1]; exact Nat.le_refl _))
  obtain ⟨G2, d2, rfl, hn2, _⟩ := o2.form
  have B14 := (B1.out.fr0 HF1.out).fr0 F2
  have B24 := (B2.out.fr0 HF1.out).fr0 F2
  have B34 := (B3.out.fr0 HF1.out).fr0 F2
  have p0 := B14.cell 0 rfl
  have p1 := B14.cell 1 rfl
  have p2 := B14.cell 2 rfl
  have p3 := B14.cell 3 rfl
  have p4 := B14.cell 4 rfl
  have q0 := B24.cell 0 rfl
  have qf0 := B24.free 0
  have q1 := B24.cell 1 rfl
  have qf1 := B24.free 1
  have q2 := B24.cell 2 rfl
  have qf2 := B24.free 2
  have q3 := B24.cell 3 rfl
  have qf3 := B24.free 3
  have q4 := B24.cell 4 rfl
  have qf4 := B24.free 4
  have r0 := B34.cell 0 rfl
  have rf0 := B34.free 0
  have r1 := B34.cell 1 rfl
  have rf1 := B34.free 1
  have l1 := B14.lt
  have l2 := B24.lt
  have l3 := B34.lt
  have HF2 := Lib.hid F2
  have HB24 := Lib.hid B24
  have HB34 := Lib.hid B34
  clear o2 f2 b2 F2 c3 B14 B24 B34
  have hle : m.free.length ≤ 0 := by rw [HFL.out]; exact Nat.le_refl _
  go_wp2_with fail
  refine post_name (fun Wf hWf => ?_)
  have BF : Bk Wf (w.heap.size + 1) 31 [.int .i64 m.places, .int .i64 m.gens, .slice U m.used.length uc, .slice F m.free.length fc, .slice A m.alive.length ac] := by
    rw [hWf]
    exact ((((((HB24.out.set 0 (.int .i64 m.places)).set 1 (.int .i64 m.gens)).set 2 (.slice U m.used.length uc)).set 3 (.slice F m.free.length fc)).set 4 (.slice A m.alive.length ac)).far (p := ⟨w.heap.size + 1 + 1, 0, none⟩) (by show w.heap.size + 1 ≠ w.heap.size + 1 + 1; omega) (.int .i64 0)).far (p := ⟨w.heap.size + 1 + 1, 1, none⟩) (by show w.heap.size + 1 ≠ w.heap.size + 1 + 1; omega) (.int .i64 0)
  have BR : Bk Wf (w.heap.size + 1 + 1) 41 [.int .i64 0, .int .i64 0] := by
    rw [hWf]
    have h0 : w.heap.size + 1 + 1 ≠ w.heap.size + 1 := by omega
    exact (((((((HB34.out.far (p := ⟨w.heap.size + 1, 0, none⟩) h0 (.int .i64 m.places)).far (p := ⟨w.heap.size + 1, 1, none⟩) h0 (.int .i64 m.gens)).far (p := ⟨w.heap.size + 1, 2, none⟩) h0 (.slice U m.used.length uc)).far (p := ⟨w.heap.size + 1, 3, none⟩) h0 (.slice F m.free.length fc)).far (p := ⟨w.heap.size + 1, 4, none⟩) h0 (.slice A m.alive.length ac)).set 0 (.int .i64 0)).set 1 (.int .i64 0))
  have FS : Fr (fun k => k = w.heap.size + 1 ∨ k = w.heap.size + 1 + 1) W2 Wf := by
    rw [hWf]
    exact (((((((Fr.refl (fun k => k = w.heap.size + 1 ∨ k = w.heap.size + 1 + 1) W2).setCell (p := ⟨w.heap.size + 1, 0, none⟩) (.inl (.inl rfl)) _).setCell (p := ⟨w.heap.size + 1, 1, none⟩) (.inl (.inl rfl)) _).setCell (p := ⟨w.heap.size + 1, 2, none⟩) (.inl (.inl rfl)) _).setCell (p := ⟨w.heap.size + 1, 3, none⟩) (.inl (.inl rfl)) _).setCell (p := ⟨w.heap.size + 1, 4, none⟩) (.inl (.inl rfl)) _).setCell (p := ⟨w.heap.size + 1 + 1, 0, none⟩) (.inl (.inr rfl)) _).setCell (p := ⟨w.heap.size + 1 + 1, 1, none⟩) (.inl (.inr rfl)) _
  have t0 := BF.cell 0 rfl
  have t1 := BF.cell 1 rfl
  have t2 := BF.cell 2 rfl
  have t3 := BF.cell 3 rfl
  have t4 := BF.cell 4 rfl
  have t5 := BR.cell 0 rfl
  have t6 := BR.cell 1 rfl
  exact bodyPost_ret (v := .tuple #[.agg #[.int .i64 m.places, .int .i64 m.gens, .slice U m.used.length uc, .slice F m.free.length fc, .slice A m.alive.length ac], .agg #[.int .i64 0, .int .i64 0], .int .i64 6]) (by simp [results, Try.results18, go_sem, t0, t1, t2, t3, t4, t5, t6]) rfl ⟨rfl, ((HF0.out.tr HF1.out).tr HF2.out).trans FS (fun k hk => .inr (by omega))⟩

/-- The law's handle: the n-th that was taken. -/
theorem handle_taken (kind n : Int) (p y : Int) (tv : Value) (tk : List (Int × Int)) (x : Int × Int) (w : World) (H : Ow w 41 2 tv tk.length (hc tk)) (h1 : kind = 1) (h0 : 0 ≤ n) (hx : tk[n.toNat]? = some x) (hl : tk.length ≤ 1024) :
    Calls Try.prog 17 #[.agg #[.int .i64 kind, .int .i64 n, .int .i64 p, .int .i64 y], tv] w fun e w' => e = .returned (.agg #[.int .i64 x.1, .int .i64 x.2]) ∧ Fr (fun _ => False) w w' := by
  subst h1
  obtain ⟨q, rfl⟩ := Int.eq_ofNat_of_zero_le h0
  simp only [Int.toNat_natCast] at hx
  have hq : q < tk.length := (List.getElem?_eq_some_iff.1 hx).1
  obtain ⟨b, c, rfl, _, _⟩ := H.pos (by omega)
  have hbl := H.lts
  have d0 := H.cell (q * 2) (hc_get0 _ _ _ hx)
  have d1 := H.cell (q * 2 + 1) (hc_get1 _ _ _ hx)
  obtain ⟨x0, x1⟩ := x
  dsimp only at d0 d1
  clear H hx h0
  go_enter Try.func17, Try.ntmps17
  go_wp2
  exact bodyPost_ret (v := .agg #[.int .i64 x0, .int .i64 x1]) (by simp [results, Try.results17, go_sem]) rfl ⟨rfl, ((Fr.refl _ w).alloc _).alloc _⟩
theorem handle_other (kind n : Int) (p y : Int) (tv : Value) (tk : List (Int × Int)) (w : World) (H : Ow w 41 2 tv tk.length (hc tk)) (h1 : ¬ (kind = 1 ∧ 0 ≤ n ∧ n < tk.length)) :
    Calls Try.prog 17 #[.agg #[.int .i64 kind, .int .i64 n, .int .i64 p, .int .i64 y], tv] w fun e w' => e = .returned (.agg #[.int .i64 p, .int .i64 y]) ∧ Fr (fun _ => False) w w' := by
  obtain ⟨A, c, rfl, _, _⟩ := H.form
  clear H
  by_cases hk : kind = 1
  · subst hk
    by_cases h0 : 0 ≤ n
    · have h2 : (tk.length : Int) ≤ n := by omega
      clear h1
      go_enter Try.func17, Try.ntmps17
      go_wp2
      exact bodyPost_ret (v := .agg #[.int .i64 p, .int .i64 y]) (by simp [results, Try.results17, go_sem]) rfl ⟨rfl, ((Fr.refl _ w).alloc _).alloc _⟩
    · clear h1
      go_enter Try.func17, Try.ntmps17
      go_wp2
      exact bodyPost_ret (v := .agg #[.int .i64 p, .int .i64 y]) (by simp [results, Try.results17, go_sem]) rfl ⟨rfl, ((Fr.refl _ w).alloc _).alloc _⟩
  · have hb : (kind == 1) = false := by simpa using hk
    clear h1 hk
    go_enter Try.func17, Try.ntmps17
    go_wp2
    exact bodyPost_ret (v := .agg #[.int .i64 p, .int .i64 y]) (by simp [results, Try.results17, go_sem]) rfl ⟨rfl, ((Fr.refl _ w).alloc _).alloc _⟩
end Go.Proofs.Ytncpfbffdilpnaa
