/-
  The walk of the document's own Free.
-/
import Derived.Test.YtncpfbffdilpnaaRefD
namespace Go.Proofs.Ytncpfbffdilpnaa
open Go.RowKit

theorem reffree_no (uv fv av : Value) (m : Rm) (p y : Int) (w : World) (H : Rs w uv fv av m) (hn : isIn m p y = false) :
    Calls Try.prog 19 #[mval m uv fv av, .agg #[.int .i64 p, .int .i64 y]] w fun e w' => e = .returned (.tuple #[mval m uv fv av, .int .i64 5]) ∧ Fr (fun _ => False) w w' := by
  have HH := Lib.hid H
  have HN := Lib.hid hn
  obtain ⟨U, uc, rfl, _, _⟩ := H.ul.form
  obtain ⟨F, fc, rfl, _, _⟩ := H.fl.form
  obtain ⟨A, ac, rfl, _, hac⟩ := H.al.form
  clear H hn
  have hc := fun W (h : Fr (fun _ => False) w W) => isalive_any _ _ _ m p y W (HH.out.fr0 h)
  have HC := Lib.hid hc
  clear hc
  unfold mval at HC ⊢
  go_enter Try.func19, Try.ntmps19
  go_wp2_with fail
  refine calls_name (fun W hW => ?_)
  have hF : Fr (fun _ => False) w W := by rw [hW]; exact (((Fr.refl _ w).alloc _).alloc _).alloc _
  have B1 : Bk W w.heap.size 31 [.int .i64 m.places, .int .i64 m.gens, .slice U m.used.length uc, .slice F m.free.length fc, .slice A m.alive.length ac] := by rw [hW]; exact ((Bk.new w _ _).al _).al _
  have B3 : Bk W (w.heap.size + 1 + 1) 31 [.int .i64 0, .int .i64 0, .slice none 0 0, .slice none 0 0, .slice none 0 0] := by rw [hW]; simpa using Bk.new ((w.alloc (.cells #[.int .i64 m.places, .int .i64 m.gens, .slice U m.used.length uc, .slice F m.free.length fc, .slice A m.alive.length ac] 31)).alloc (.cells #[.int .i64 p, .int .i64 y] 41)) [.int .i64 0, .int .i64 0, .slice none 0 0, .slice none 0 0, .slice none 0 0] 31
  have HF := Lib.hid hF
  have HB1 := Lib.hid B1
  have HB3 := Lib.hid B3
  clear hW hF B1 B3
  refine (HC.out W HF.out).mono ?_
  rw [HN.out]
  rintro e W1 ⟨rfl, f1⟩
  have B1 := HB1.out.fr0 f1
  have B3 := HB3.out.fr0 f1
  have p0 := B1.cell 0 rfl
  have p1 := B1.cell 1 rfl
  have p2 := B1.cell 2 rfl
  have p3 := B1.cell 3 rfl
  have p4 := B1.cell 4 rfl
  have q0 := B3.cell 0 rfl
  have q1 := B3.cell 1 rfl
  have q2 := B3.cell 2 rfl
  have q3 := B3.cell 3 rfl
  have q4 := B3.cell 4 rfl
  have f0 := B3.free 0
  have f1' := B3.free 1
  have f2 := B3.free 2
  have f3 := B3.free 3
  have f4 := B3.free 4
  have HF1 := Lib.hid f1
  have HB31 := Lib.hid B3
  clear f1 B1 B3
  go_wp2_with fail
  refine post_name (fun Wf hWf => ?_)
  have BF : Bk Wf (w.heap.size + 1 + 1) 31 [.int .i64 m.places, .int .i64 m.gens, .slice U m.used.length uc, .slice F m.free.length fc, .slice A m.alive.length ac] := by
    rw [hWf]
    exact ((((HB31.out.set 0 (.int .i64 m.places)).set 1 (.int .i64 m.gens)).set 2 (.slice U m.used.length uc)).set 3 (.slice F m.free.length fc)).set 4 (.slice A m.alive.length ac)
  have FS : Fr (fun _ => False) w Wf := by
    rw [hWf]
    exact ((((((HF.out.tr HF1.out).setCell (p := ⟨w.heap.size + 1 + 1, 0, none⟩) (.inr (by show w.heap.size ≤ w.heap.size + 1 + 1; omega)) _).setCell (p := ⟨w.heap.size + 1 + 1, 1, none⟩) (.inr (by show w.heap.size ≤ w.heap.size + 1 + 1; omega)) _).setCell (p := ⟨w.heap.size + 1 + 1, 2, none⟩) (.inr (by show w.heap.size ≤ w.heap.size + 1 + 1; omega)) _).setCell (p := ⟨w.heap.size + 1 + 1, 3, none⟩) (.inr (by show w.heap.size ≤ w.heap.size + 1 + 1; omega)) _).setCell (p := ⟨w.heap.size + 1 + 1, 4, none⟩) (.inr (by show w.heap.size ≤ w.heap.size + 1 + 1; omega)) _)
  have t0 := BF.cell 0 rfl
  have t1 := BF.cell 1 rfl
  have t2 := BF.cell 2 rfl
  have t3 := BF.cell 3 rfl
  have t4 := BF.cell 4 rfl
  exact bodyPost_ret (v := .tuple #[.agg #[.int .i64 m.places, .int .i64 m.gens, .slice U m.used.length uc, .slice F m.free.length fc, .slice A m.alive.length ac], .int .i64 5]) (by simp [results, Try.results19, go_sem, t0, t1, t2, t3, t4]) rfl ⟨rfl, FS⟩
def flt (l : List (Int × Int)) (p y : Int) : List (Int × Int) := l.filter fun x => decide (x ≠ (p, y))
theorem flt_take (l : List (Int × Int)) (p y : Int) (k : Nat) (x : Int × Int) (h : l[k]? = some x) : flt (l.take (k + 1)) p y = flt (l.take k) p y ++ (if x = (p, y) then [] else [x]) := by
  rw [List.take_add_one, h]
  unfold flt
  rw [List.filter_append]
  congr 1
  by_cases e : x = (p, y) <;> simp [e]
theorem flt_le (l : List (Int × Int)) (p y : Int) (k : Nat) : (flt (l.take k) p y).length ≤ k := Nat.le_trans (List.length_filter_le _ _) (List.length_take_le _ _)

set_option maxHeartbeats 1000000 in
theorem reffree_yes (uv fv av : Value) (m : Rm) (p y : Int) (w : World) (H : Rs w uv fv av m) (hn : isIn m p y = true) (hfl : m.free.length < 1024) (fr' : List Int) (hfr : fr' = if y < m.gens then m.free ++ [p] else m.free) :
    Calls Try.prog 19 #[mval m uv fv av, .agg #[.int .i64 p, .int .i64 y]] w fun e w' => ∃ fv' av', e = .returned (.tuple #[mval ⟨m.places, m.gens, m.used, fr', flt m.alive p y⟩ uv fv' av', .int .i64 0]) ∧
      Rs w' uv fv' av' ⟨m.places, m.gens, m.used, fr', flt m.alive p y⟩ ∧ (∀ k, fv'.ownBlock = some k ∨ av'.ownBlock = some k → w.heap.size ≤ k) ∧ Fr (fun _ => False) w w' := by
  have HFR := Lib.hid hfr
  have HH := Lib.hid H
  have HN := Lib.hid hn
  obtain ⟨U, uc, rfl, _, _⟩ := H.ul.form
  obtain ⟨F, fc, rfl, _, _⟩ := H.fl.form
  obtain ⟨A, ac, rfl, _, hac⟩ := H.al.form
  obtain ⟨s1, s2, s3⟩ := H.small
  obtain ⟨i0, hi, hz0, hz1, hz2⟩ := info_parts Try.info3r
  obtain ⟨i1, hi1, hy0, hy3, hy4⟩ := info_parts Try.info41
  clear H hn hfr
  have hc := fun W (h : Fr (fun _ => False) w W) => isalive_any _ _ _ m p y W (HH.out.fr0 h)
  have HC := Lib.hid hc
  clear hc
  unfold mval at HC ⊢
  go_enter Try.func19, Try.ntmps19
  go_wp2_with fail
  refine calls_name (fun W hW => ?_)
  have hF : Fr (fun _ => False) w W := by rw [hW]; exact (((Fr.refl _ w).alloc _).alloc _).alloc _
  have B1 : Bk W w.heap.size 31 [.int .i64 m.places, .int .i64 m.gens, .slice U m.used.length uc, .slice F m.free.length fc, .slice A m.alive.length ac] := by rw [hW]; exact ((Bk.new w _ _).al _).al _
  have B3 : Bk W (w.heap.size + 1 + 1) 31 [.int .i64 0, .int .i64 0, .slice none 0 0, .slice none 0 0, .slice none 0 0] := by rw [hW]; simpa using Bk.new ((w.alloc (.cells #[.int .i64 m.places, .int .i64 m.gens, .slice U m.used.length uc, .slice F m.free.length fc, .slice A m.alive.length ac] 31)).alloc (.cells #[.int .i64 p, .int .i64 y] 41)) [.int .i64 0, .int .i64 0, .slice none 0 0, .slice none 0 0, .slice none 0 0] 31
  have B2 : Bk W (w.heap.size + 1) 41 [.int .i64 p, .int .i64 y] := by rw [hW]; simpa using (Bk.new (w.alloc (.cells #[.int .i64 m.places, .int .i64 m.gens, .slice U m.used.length uc, .slice F m.free.length fc, .slice A m.alive.length ac] 31)) [.int .i64 p, .int .i64 y] 41).al (.cells #[.int .i64 0, .int .i64 0, .slice none 0 0, .slice none 0 0, .slice none 0 0] 31)
  have hsz : w.heap.size + 3 ≤ W.heap.size := by rw [hW]; simp
  have HB2 := Lib.hid B2
  have HF := Lib.hid hF
  have HB1 := Lib.hid B1
  have HB3 := Lib.hid B3
  clear hW hF B1 B2 B3
  refine (HC.out W HF.out).mono ?_
  rw [HN.out]
  rintro e W1 ⟨rfl, f1⟩
  have B1 := HB1.out.fr0 f1
  have B3 := HB3.out.fr0 f1
  have B2 := HB2.out.fr0 f1
  have b0 := B2.cell 0 rfl
  have b1 := B2.cell 1 rfl
  have p0 := B1.cell 0 rfl
  have p1 := B1.cell 1 rfl
  have p2 := B1.cell 2 rfl
  have p3 := B1.cell 3 rfl
  have p4 := B1.cell 4 rfl
  have HF1 := Lib.hid f1
  have HB11 := Lib.hid B1
  have HB21 := Lib.hid B2
  have HB31 := Lib.hid B3
  have HS1 := Lib.hid ((HH.out.fr0 HF.out).fr0 f1)
  clear f1 B1 B2 B3
  go_wp2_with fail
  go_loopw [7, 8] (fun u i wr => ∃ k : Nat, k ≤ m.alive.length ∧ i = .int .i64 k ∧ Hid (Ow wr 41 2 u (flt (m.alive.take k) p y).length (hc (flt (m.alive.take k) p y))) ∧ Hid (∀ b, u.ownBlock = some b → W1.heap.size ≤ b) ∧ Hid (Fr (fun _ => False) W1 wr)) (fun _ i _ => m.alive.length - (intOf i).toNat)
  case atStart => exact ⟨0, Nat.zero_le _, rfl, Lib.hid (by simpa [flt] using (show Ow W1 41 2 (.slice none 0 0) 0 (hc []) from Ow.nil W1 41 2)), Lib.hid (fun b hb => by simp [Value.ownBlock] at hb), Lib.hid (Fr.refl _ _)⟩
  case round =>
    obtain ⟨k, hk, rfl, HU, HUB, HFw⟩ := hrel
    have B1 := HB11.out.fr0 HFw.out
    have B2 := HB21.out.fr0 HFw.out
    have p4 := B1.cell 4 rfl
    have b0 := B2.cell 0 rfl
    have b1 := B2.cell 1 rfl
    have l1 := B1.lt
    have l2 := B2.lt
    by_cases hlt : k < m.alive.length
    · obtain ⟨x, hx⟩ : ∃ x, m.alive[k]? = some x := ⟨_, List.getElem?_eq_getElem hlt⟩
      have hal := HS1.out.al.fr0 HFw.out
      obtain ⟨bp, cp, e, _, _⟩ := hal.pos (by omega)
      injection e with e _ e2
      subst e e2
      have d0 := hal.cell (k * 2) (hc_get0 _ _ _ hx)
      have d1 := hal.cell (k * 2 + 1) (hc_get1 _ _ _ hx)
      have hft := flt_take m.alive p y k x hx
      have hle := flt_le m.alive p y k
      have HX := Lib.hid hft
      clear hx hal B1 B2 hft
      obtain ⟨q, z⟩ := x
      dsimp only at d0 d1
      by_cases h1 : q = p ∧ z = y
      · obtain ⟨rfl, rfl⟩ := h1
        go_wp2
        go_quiet (fail)
        go_wp2
        go_roundw
        case rel => exact ⟨k + 1, hlt, by go_num, Lib.hid (by rw [HX.out]; simpa using HU.out.drewN _), HUB, Lib.hid (HFw.out.drewN _)⟩
        case measure => simp [intOf]; omega
      · have hne : ((q, z) : Int × Int) ≠ (p, y) := fun e => h1 ⟨congrArg Prod.fst e, congrArg Prod.snd e⟩
        have hx2 := HX.out
        rw [if_neg hne] at hx2
        have HX2 := Lib.hid hx2
        have hcase : (q == p) = false ∨ ((q == p) = true ∧ (z == y) = false) := by
          by_cases e1 : q = p
          · right; refine ⟨by simpa using e1, ?_⟩; simp; intro e2; exact h1 ⟨e1, e2⟩
          · left; simpa using e1
        clear h1 hne hx2 HX
        rcases hcase with t1 | ⟨t0, t1⟩
        all_goals
          go_wp2
          go_quiet (fail)
          go_wp2_with (at_builtin; refine wpList_append_keep _ rfl _ _ 29 rfl 41 i1 (.agg #[.int .i64 0, .int .i64 0]) 2 16 Try.underlying29 hi1 hy0 hy3 hy4 rfl (by decide) _ _ _ rfl ((HU.out.drewN nq).al _) ⟨wr.heap.size, 0, none⟩ 1 1 [.int .i64 q, .int .i64 z] rfl rfl (one_new (W := wr.drewN nq)) (by simp [Value.oneCell']) (by simp [maxLen]; omega) (by omega) ?_)
          intro v' w7 g1 g2 g3 g4
          have G1 := Lib.hid g1
          have G3 := Lib.hid g3
          have G4 := Lib.hid g4
          clear g1 g2 g3 g4
          go_wp2
          go_roundw
          case rel => exact ⟨k + 1, hlt, by go_num, Lib.hid (by
              rw [HX2.out, List.length_append, hc_append]
              exact G1.out), Lib.hid (fun b hb => by
              rcases G4.out b hb with h | h
              · exact HUB.out b h
              · have := HFw.out.size; have e : (wr.drewN nq).heap.size + 1 ≤ b := by simpa using h
                have e2 : (wr.drewN nq).heap.size = wr.heap.size := rfl
                omega), Lib.hid (((HFw.out.drewN nq).alloc _).trans G3.out (fun b hb => .inr (HUB.out b hb.1)))⟩
          case measure => simp [intOf]; omega
    · have hkn : k = m.alive.length := by omega
      have HK := Lib.hid hkn
      have B3 := HB31.out.fr0 HFw.out
      have p3 := B1.cell 3 rfl
      have HUF := Lib.hid (show Ow wr 41 2 u7 (flt m.alive p y).length (hc (flt m.alive p y)) from by
        have := HU.out
        rw [hkn, List.take_of_length_le (Nat.le_refl _)] at this
        exact this)
      have hfle : (flt m.alive p y).length ≤ m.alive.length := by have := flt_le m.alive p y m.alive.length; rwa [List.take_of_length_le (Nat.le_refl _)] at this
      obtain ⟨G7, d7, rfl, hn7, _⟩ := HUF.out.form
      have HBB1 := Lib.hid B1
      have HBB2 := Lib.hid B2
      have HBB3 := Lib.hid B3
      clear hkn B1 B2 B3 HU
      go_wp2_with (at_builtin; refine wpList_append_ow _ rfl _ _ 28 rfl 3 i0 (.int .i64 0) 1 8 Try.underlying28 hi hz0 hz1 hz2 rfl (by decide) _ 0 _ [] rfl (Ow.made _ _ _) _ m.free.length (ic m.free) rfl ((HS1.out.fl.fr0 HFw.out).al _) (ic_one _) ?l1 ?l2 ?_)
      case l1 => simp [maxLen]; omega
      case l2 => omega
      intro v8 W8 o8 _ f8 b8
      try simp only [Nat.zero_add, List.nil_append] at o8
      have F8 : Fr (fun _ => False) wr W8 := ((Fr.refl (fun _ => False) wr).alloc _).trans f8 (fun k hk => .inr (by rw [← hk.1]; exact Nat.le_refl _))
      obtain ⟨G8, d8, rfl, hn8, _⟩ := o8.form
      have B1 := HBB1.out.fr0 F8
      have B2 := HBB2.out.fr0 F8
      have p0 := B1.cell 0 rfl
      have p1 := B1.cell 1 rfl
      have p2 := B1.cell 2 rfl
      have b0 := B2.cell 0 rfl
      have b1 := B2.cell 1 rfl
      have l1 := B1.lt
      have l2 := B2.lt
      have B3 := HBB3.out.fr0 F8
      have hb8 : ∀ b, (Value.slice G8 m.free.length d8).ownBlock = some b → wr.heap.size ≤ b := fun b hb => by
        rcases b8 b hb with h | h
        · omega
        · have e : wr.heap.size + 1 ≤ b := by simpa using h
          omega
      have O8 := Lib.hid o8
      have HF8 := Lib.hid F8
      have HB8 := Lib.hid hb8
      have HB3' := Lib.hid B3
      clear o8 f8 b8 F8 B1 B2 B3 hb8 p3 p4
      by_cases hyg : y < m.gens
      · have HFE := Lib.hid (show fr' = m.free ++ [p] from by rw [HFR.out, if_pos hyg])
        go_wp2_with (at_builtin; refine wpList_append_keep _ rfl _ _ 28 rfl 3 i0 (.int .i64 0) 1 8 Try.underlying28 hi hz0 hz1 hz2 rfl (by decide) _ m.free.length _ rfl (O8.out.al _) ⟨W8.heap.size, 0, none⟩ 1 1 [.int .i64 p] rfl rfl ?t0 ?t1 ?t2 ?t3 ?_)
        all_goals try first | exact one_new (W := W8) | (simp [Value.oneCell']; done) | (simp [maxLen]; omega) | omega
        intro v9 W9 o9 _ f9 b9
        obtain ⟨G9, d9, rfl, hn9, _⟩ := o9.form
        have F9 : Fr (fun k => (Value.slice G8 m.free.length d8).ownBlock = some k) W8 W9 := ((Fr.refl _ W8).alloc _).trans f9 (fun k hk => .inl hk.1)
        have B3 := HB3'.out.fr F9 (fun h => by have := HB8.out _ h; have := HBB3.out.lt; omega)
        have B1 := (HBB1.out.fr0 HF8.out).fr F9 (fun h => by have := HB8.out _ h; have := HBB1.out.lt; omega)
        have hb9 : ∀ b, (Value.slice G9 (m.free.length + 1) d9).ownBlock = some b → wr.heap.size ≤ b := fun b hb => by
          rcases b9 b hb with h | h
          · exact HB8.out b h
          · have := HF8.out.size; omega
        have F89 : Fr (fun _ => False) wr W9 := HF8.out.trans F9 (fun k hk => .inr (HB8.out k hk))
        have O9 := Lib.hid (show Ow W9 3 1 (.slice G9 (m.free.length + 1) d9) fr'.length (ic fr') from by
          rw [HFE.out, List.length_append, ic_append]; exact o9)
        have p0 := B1.cell 0 rfl
        have p1 := B1.cell 1 rfl
        have p2 := B1.cell 2 rfl
        have l1 := B1.lt
        have q0 := B3.cell 0 rfl
        have q1 := B3.cell 1 rfl
        have q2 := B3.cell 2 rfl
        have q3 := B3.cell 3 rfl
        have q4 := B3.cell 4 rfl
        have qf0 := B3.free 0
        have qf1 := B3.free 1
        have qf2 := B3.free 2
        have qf3 := B3.free 3
        have qf4 := B3.free 4
        have l3 := B3.lt
        have HF9 := Lib.hid F89
        have HB9 := Lib.hid hb9
        have HB39 := Lib.hid B3
        clear o9 f9 b9 F9 B3 B1 hb9 F89 b0 b1
        go_wp2_with fail
        refine post_name (fun Wf hWf => ?_)
        have BF : Bk Wf (w.heap.size + 1 + 1) 31 [.int .i64 m.places, .int .i64 m.gens, .slice U m.used.length uc, .slice G9 (m.free.length + 1) d9, .slice G7 (flt m.alive p y).length d7] := by
          rw [hWf]
          exact ((((HB39.out.set 0 (.int .i64 m.places)).set 1 (.int .i64 m.gens)).set 2 (.slice U m.used.length uc)).set 3 (.slice G9 (m.free.length + 1) d9)).set 4 (.slice G7 (flt m.alive p y).length d7)
        have FS : Fr (fun k => k = w.heap.size + 1 + 1) W9 Wf := by
          rw [hWf]
          exact ((((((Fr.refl (fun k => k = w.heap.size + 1 + 1) W9).setCell (p := ⟨w.heap.size + 1 + 1, 0, none⟩) (.inl rfl) _).setCell (p := ⟨w.heap.size + 1 + 1, 1, none⟩) (.inl rfl) _).setCell (p := ⟨w.heap.size + 1 + 1, 2, none⟩) (.inl rfl) _).setCell (p := ⟨w.heap.size + 1 + 1, 3, none⟩) (.inl rfl) _).setCell (p := ⟨w.heap.size + 1 + 1, 4, none⟩) (.inl rfl) _)
        have t0 := BF.cell 0 rfl
        have t1 := BF.cell 1 rfl
        have t2 := BF.cell 2 rfl
        have t3 := BF.cell 3 rfl
        have t4 := BF.cell 4 rfl
        have sz1 := HF1.out.size
        have szw := HFw.out.size
        have ul := (((HS1.out.ul.fr0 HFw.out).fr0 HF9.out)).fr FS (fun k hk h => by have := HH.out.ul.lt hk; omega)
        have fl := O9.out.fr FS (fun k hk h => by have := HB9.out k hk; omega)
        have al := (HUF.out.fr0 HF9.out).fr FS (fun k hk h => by have := HUB.out k hk; omega)
        refine bodyPost_ret (v := .tuple #[.agg #[.int .i64 m.places, .int .i64 m.gens, .slice U m.used.length uc, .slice G9 (m.free.length + 1) d9, .slice G7 (flt m.alive p y).length d7], .int .i64 0]) (by simp [results, Try.results19, go_sem, t0, t1, t2, t3, t4]) rfl ⟨_, _, rfl, ⟨ul, fl, al, s1, ?_, by show (flt m.alive p y).length ≤ 1024; omega⟩, ?_, ?_⟩
        · show fr'.length ≤ 1024
          rw [HFE.out]
          simp; omega
        · intro k hk
          rcases hk with hk | hk
          · have := HB9.out k hk; omega
          · have := HUB.out k hk; omega
        · exact (((HF.out.tr HF1.out).tr HFw.out).tr HF9.out).trans FS (fun k hk => .inr (by omega))
      · have HFE := Lib.hid (show fr' = m.free from by rw [HFR.out, if_neg hyg])
        obtain ⟨W9, hW9⟩ : ∃ W, W = W8 := ⟨_, rfl⟩
        rw [← hW9] at p0 p1 p2 b0 b1 l1 l2 O8 HF8 HB3' ⊢
        have B3 := HB3'.out
        have q0 := B3.cell 0 rfl
        have q1 := B3.cell 1 rfl
        have q2 := B3.cell 2 rfl
        have q3 := B3.cell 3 rfl
        have q4 := B3.cell 4 rfl
        have qf0 := B3.free 0
        have qf1 := B3.free 1
        have qf2 := B3.free 2
        have qf3 := B3.free 3
        have qf4 := B3.free 4
        have l3 := B3.lt
        have HF9 := Lib.hid HF8.out
        have HB9 := Lib.hid HB8.out
        have HB39 := Lib.hid B3
        have O9 := Lib.hid (show Ow W9 3 1 (.slice G8 m.free.length d8) fr'.length (ic fr') from by
          rw [HFE.out]; exact O8.out)
        clear B3 hW9
        go_wp2_with fail
        refine post_name (fun Wf hWf => ?_)
        have BF : Bk Wf (w.heap.size + 1 + 1) 31 [.int .i64 m.places, .int .i64 m.gens, .slice U m.used.length uc, .slice G8 m.free.length d8, .slice G7 (flt m.alive p y).length d7] := by
          rw [hWf]
          exact ((((HB39.out.set 0 (.int .i64 m.places)).set 1 (.int .i64 m.gens)).set 2 (.slice U m.used.length uc)).set 3 (.slice G8 m.free.length d8)).set 4 (.slice G7 (flt m.alive p y).length d7)
        have FS : Fr (fun k => k = w.heap.size + 1 + 1) W9 Wf := by
          rw [hWf]
          exact ((((((Fr.refl (fun k => k = w.heap.size + 1 + 1) W9).setCell (p := ⟨w.heap.size + 1 + 1, 0, none⟩) (.inl rfl) _).setCell (p := ⟨w.heap.size + 1 + 1, 1, none⟩) (.inl rfl) _).setCell (p := ⟨w.heap.size + 1 + 1, 2, none⟩) (.inl rfl) _).setCell (p := ⟨w.heap.size + 1 + 1, 3, none⟩) (.inl rfl) _).setCell (p := ⟨w.heap.size + 1 + 1, 4, none⟩) (.inl rfl) _)
        have t0 := BF.cell 0 rfl
        have t1 := BF.cell 1 rfl
        have t2 := BF.cell 2 rfl
        have t3 := BF.cell 3 rfl
        have t4 := BF.cell 4 rfl
        have sz1 := HF1.out.size
        have szw := HFw.out.size
        have ul := (((HS1.out.ul.fr0 HFw.out).fr0 HF9.out)).fr FS (fun k hk h => by have := HH.out.ul.lt hk; omega)
        have fl := O9.out.fr FS (fun k hk h => by have := HB9.out k hk; omega)
        have al := (HUF.out.fr0 HF9.out).fr FS (fun k hk h => by have := HUB.out k hk; omega)
        refine bodyPost_ret (v := .tuple #[.agg #[.int .i64 m.places, .int .i64 m.gens, .slice U m.used.length uc, .slice G8 m.free.length d8, .slice G7 (flt m.alive p y).length d7], .int .i64 0]) (by simp [results, Try.results19, go_sem, t0, t1, t2, t3, t4]) rfl ⟨_, _, rfl, ⟨ul, fl, al, s1, ?_, by show (flt m.alive p y).length ≤ 1024; omega⟩, ?_, ?_⟩
        · show fr'.length ≤ 1024
          rw [HFE.out]
          omega
        · intro k hk
          rcases hk with hk | hk
          · have := HB9.out k hk; omega
          · have := HUB.out k hk; omega
        · exact (((HF.out.tr HF1.out).tr HFw.out).tr HF9.out).trans FS (fun k hk => .inr (by omega))
end Go.Proofs.Ytncpfbffdilpnaa
