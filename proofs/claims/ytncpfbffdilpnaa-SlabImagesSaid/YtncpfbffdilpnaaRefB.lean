/-
  The walks of the document's own Take and Free, and of the law's handle.
-/
import Derived.Test.YtncpfbffdilpnaaRefA
import Derived.Deep.RegionHeld3
namespace Go.Proofs.Ytncpfbffdilpnaa
open Go.RowKit

theorem Ow.lts' {W : World} {t : TypeId} {sz n g c : Nat} {xs : List Value} (h : Ow W t sz (.slice (some ⟨g, 0, none⟩) n c) n xs) : g < W.heap.size := h.lt rfl
theorem post_name {P : Program} {fn : Func} {R : Ending → World → Prop} {e : Exit} {a : Act} {w : World} (h : ∀ W, W = w → bodyPost P fn R e a W) : bodyPost P fn R e a w := h w rfl
theorem Try.info3r : (Try.prog.info? 3).map (fun i => (i.zero, i.size, i.bytes)) = some (some (.int .i64 0), 1, 8) := by kernel_rfl
theorem Try.info41 : (Try.prog.info? 41).map (fun i => (i.zero, i.size, i.bytes)) = some (some (.agg #[.int .i64 0, .int .i64 0]), 2, 16) := by kernel_rfl

set_option maxHeartbeats 1000000 in
theorem reftake_pop (uv fv av : Value) (m : Rm) (xs : List Int) (q : Nat) (y : Int) (w : World) (H : Rs w uv fv av m) (hf : m.free = xs ++ [(q : Int)]) (hq : m.used[q]? = some y) (hy : 0 ≤ y ∧ y ≤ 65535) (ha : m.alive.length < 1024) :
    Calls Try.prog 18 #[mval m uv fv av] w fun e w' => ∃ uv' fv' av', e = .returned (.tuple #[mval ⟨m.places, m.gens, m.used.set q (y + 1), xs, m.alive ++ [((q : Int), y + 1)]⟩ uv' fv' av', .agg #[.int .i64 q, .int .i64 (y + 1)], .int .i64 0]) ∧
      Rs w' uv' fv' av' ⟨m.places, m.gens, m.used.set q (y + 1), xs, m.alive ++ [((q : Int), y + 1)]⟩ ∧ (∀ k, uv'.ownBlock = some k ∨ fv'.ownBlock = some k ∨ av'.ownBlock = some k → w.heap.size ≤ k) ∧ Fr (fun _ => False) w w' := by
  obtain ⟨s1, s2, s3⟩ := H.small
  obtain ⟨hy1, hy2⟩ := hy
  have hfl : m.free.length = xs.length + 1 := by rw [hf]; simp
  have hql : q < m.used.length := (List.getElem?_eq_some_iff.1 hq).1
  have HH := Lib.hid H
  have HF := Lib.hid hf
  have HQ := Lib.hid hq
  have HFL := Lib.hid hfl
  obtain ⟨U, uc, rfl, _, _⟩ := H.ul.form
  obtain ⟨F, fc, rfl, _, _⟩ := H.fl.form
  obtain ⟨A, ac, rfl, _, hac⟩ := H.al.form
  clear H hf hq hfl
  obtain ⟨i0, hi, hz0, hz1, hz2⟩ := info_parts Try.info3r
  obtain ⟨i1, hi1, hy0, hy3, hy4⟩ := info_parts Try.info41
  unfold mval
  go_enter Try.func18, Try.ntmps18
  go_upto_region 1 with fail
  refine wp_name (fun W0 hW0 => ?_)
  have hF0 : Fr (fun _ => False) w W0 := by rw [hW0]; exact (((Fr.refl _ w).alloc _).alloc _).alloc _
  have hB1 : Bk W0 w.heap.size 31 [.int .i64 m.places, .int .i64 m.gens, .slice U m.used.length uc, .slice F m.free.length fc, .slice A m.alive.length ac] := by rw [hW0]; exact ((Bk.new w _ _).al _).al _
  have hB2 : Bk W0 (w.heap.size + 1) 31 [.int .i64 0, .int .i64 0, .slice none 0 0, .slice none 0 0, .slice none 0 0] := by rw [hW0]; simpa using (Bk.new (w.alloc (.cells #[.int .i64 m.places, .int .i64 m.gens, .slice U m.used.length uc, .slice F m.free.length fc, .slice A m.alive.length ac] 31)) [.int .i64 0, .int .i64 0, .slice none 0 0, .slice none 0 0, .slice none 0 0] 31).al (.cells #[.int .i64 0, .int .i64 0] 41)
  have hB3 : Bk W0 (w.heap.size + 1 + 1) 41 [.int .i64 0, .int .i64 0] := by rw [hW0]; simpa using (Bk.new ((w.alloc (.cells #[.int .i64 m.places, .int .i64 m.gens, .slice U m.used.length uc, .slice F m.free.length fc, .slice A m.alive.length ac] 31)).alloc (.cells #[.int .i64 0, .int .i64 0, .slice none 0 0, .slice none 0 0, .slice none 0 0] 31)) [.int .i64 0, .int .i64 0] 41)
  have hsz : w.heap.size + 3 ≤ W0.heap.size := by rw [hW0]; simp
  have HS0 := Lib.hid (HH.out.fr0 hF0)
  have HF0 := Lib.hid hF0
  have B1 := Lib.hid hB1
  have B2 := Lib.hid hB2
  have B3 := Lib.hid hB3
  have c2 := hB1.cell 2 rfl
  have l1 := hB1.lt
  clear hW0 hF0 hB1 hB2 hB3
  go_wp2_with (at_builtin; refine wpList_append_ow _ rfl _ _ 28 rfl 3 i0 (.int .i64 0) 1 8 Try.underlying28 hi hz0 hz1 hz2 rfl (by decide) _ 0 _ [] rfl (Ow.made _ _ _) _ m.used.length (ic m.used) rfl (HS0.out.ul.al _) (ic_one _) ?l1 ?l2 ?_)
  case l1 => simp [maxLen]; omega
  case l2 => omega
  intro u1 W1 o1 _ f1 b1
  try simp only [Nat.zero_add, List.nil_append] at o1
  have F1 : Fr (fun _ => False) W0 W1 := ((Fr.refl (fun _ => False) W0).alloc _).trans f1 (fun k hk => .inr (by rw [← hk.1]; exact Nat.le_refl _))
  have c3 := (B1.out.fr0 F1).cell 3 rfl
  have l1 := (B1.out.fr0 F1).lt
  obtain ⟨U1, d1, rfl, _, _⟩ := o1.form
  have O1 := Lib.hid o1
  have HF1 := Lib.hid F1
  have BB1 := Lib.hid b1
  clear o1 f1 b1 F1 c2
  go_wp2_with (at_builtin; refine wpList_append_ow _ rfl _ _ 28 rfl 3 i0 (.int .i64 0) 1 8 Try.underlying28 hi hz0 hz1 hz2 rfl (by decide) _ 0 _ [] rfl (Ow.made _ _ _) _ m.free.length (ic m.free) rfl ((HS0.out.fl.fr0 HF1.out).al _) (ic_one _) ?l1 ?l2 ?_)
  case l1 => simp [maxLen]; omega
  case l2 => omega
  intro u2 W2 o2 _ f2 b2
  try simp only [Nat.zero_add, List.nil_append] at o2
  have F2 : Fr (fun _ => False) W1 W2 := ((Fr.refl (fun _ => False) W1).alloc _).trans f2 (fun k hk => .inr (by rw [← hk.1]; exact Nat.le_refl _))
  obtain ⟨g2, d2, rfl, hn2, _⟩ := o2.pos (by have := HFL.out; omega)
  obtain ⟨g1, d1', e, _, _⟩ := O1.out.pos (by omega)
  injection e with e _ e'
  subst e e'
  have hg12 : g1 ≠ g2 := fun h => by
    have h2 := Ow.lts' O1.out
    rcases b2 g2 rfl with h1 | h1
    · omega
    · omega
  rw [HFL.out] at o2 hn2
  have c4 := o2.cell xs.length (u := .int .i64 q) (by rw [HF.out]; simp [ic])
  have e1 := (O1.out.fr0 F2).cell q (ic_get _ _ _ HQ.out)
  have f1 := (O1.out.fr0 F2).free q
  have k0 := ((B1.out.fr0 HF1.out).fr0 F2).cell 0 rfl
  have k1 := ((B1.out.fr0 HF1.out).fr0 F2).cell 1 rfl
  have k4 := ((B1.out.fr0 HF1.out).fr0 F2).cell 4 rfl
  have l1 := ((B1.out.fr0 HF1.out).fr0 F2).lt
  have l2 := ((B2.out.fr0 HF1.out).fr0 F2).lt
  have l3 := ((B3.out.fr0 HF1.out).fr0 F2).lt
  have O2 := Lib.hid o2
  have HF2 := Lib.hid F2
  have BB2 := Lib.hid b2
  have HG := Lib.hid hg12
  clear o2 f2 b2 F2 c3 hg12
  rw [HFL.out]
  have hxl : xs.length ≤ 1024 := by have := HFL.out; omega
  go_upto_region 12 with fail
  refine wp_name (fun W3 hW3 => ?_)
  have oU : Ow W3 3 1 (.slice (some ⟨g1, 0, none⟩) m.used.length d1) m.used.length (ic (m.used.set q (y + 1))) := by
    have h1 := (O1.out.fr0 HF2.out).set q (.int .i64 (y + 1))
    rw [show (ic m.used).set q (.int .i64 (y + 1)) = ic (m.used.set q (y + 1)) by simp [ic, List.map_set]] at h1
    rw [hW3]; exact h1.al _
  have oF : Ow W3 3 1 (.slice (some ⟨g2, 0, none⟩) xs.length d2) xs.length (ic xs) := by
    have h1 := O2.out.take xs.length (by omega) rfl
    rw [HF.out, show (ic (xs ++ [(q : Int)])).take (xs.length * 1) = ic xs by simp [ic]] at h1
    rw [hW3]; exact (h1.far (p := ⟨g1, q, none⟩) (fun k hk e => HG.out (by rw [own_eq hk]; exact e.symm)) _).al _
  have nb : w.heap.size + 3 ≤ g1 := by have := BB1.out g1 rfl; omega
  have nb2 : w.heap.size + 3 ≤ g2 := by have := BB2.out g2 rfl; have := HF1.out.size; omega
  have F3 : Fr (fun _ => False) w W3 := by
    rw [hW3]; exact (((HF0.out.tr HF1.out).tr HF2.out).setCell (p := ⟨g1, q, none⟩) (.inr (show w.heap.size ≤ g1 by omega)) _).alloc _
  have FF : Fr (fun _ => False) W0 W3 := by
    rw [hW3]; exact (((HF1.out).tr HF2.out).setCell (p := ⟨g1, q, none⟩) (.inr (show W0.heap.size ≤ g1 by have := BB1.out g1 rfl; omega)) _).alloc _
  have B13 := B1.out.fr0 FF
  have B23 := B2.out.fr0 FF
  have B33 := B3.out.fr0 FF
  have B8 : Bk W3 W2.heap.size 41 [.int .i64 q, .int .i64 (y + 1)] := by
    rw [hW3]; simpa using Bk.new (W2.setCell ⟨g1, q, none⟩ (.int .i64 (y + 1))) [.int .i64 q, .int .i64 (y + 1)] 41
  have S3 : Ow W3 41 2 (.slice A m.alive.length ac) m.alive.length (hc m.alive) := HS0.out.al.fr0 FF
  have w2 : w.heap.size + 3 ≤ W2.heap.size := by have := HF1.out.size; have := HF2.out.size; omega
  have k4 := B13.cell 4 rfl
  have l1 := B13.lt
  have HU3 := Lib.hid oU
  have HFr3 := Lib.hid oF
  have HF3 := Lib.hid F3
  have HS3 := Lib.hid S3
  have HB13 := Lib.hid B13
  have HB23 := Lib.hid B23
  have HB33 := Lib.hid B33
  have HB8 := Lib.hid B8
  clear hW3 oU oF F3 FF B13 B23 B33 B8 S3 c4 e1 f1 k0 k1
  go_wp2_with (at_builtin; refine wpList_append_ow _ rfl _ _ 29 rfl 41 i1 (.agg #[.int .i64 0, .int .i64 0]) 2 16 Try.underlying29 hi1 hy0 hy3 hy4 rfl (by decide) _ 0 _ [] rfl (Ow.made _ _ _) _ m.alive.length (hc m.alive) rfl (HS3.out.al _) (hc_one _) ?l1 ?l2 ?_)
  case l1 => simp [maxLen]; omega
  case l2 => omega
  intro u3 W4 o3 _ f3 b3
  try simp only [Nat.zero_add, List.nil_append] at o3
  have F4 : Fr (fun _ => False) W3 W4 := ((Fr.refl (fun _ => False) W3).alloc _).trans f3 (fun k hk => .inr (by rw [← hk.1]; exact Nat.le_refl _))
  obtain ⟨G3, d3, rfl, hn3, _⟩ := o3.form
  have B14 := HB13.out.fr0 F4
  have B24 := HB23.out.fr0 F4
  have B34 := HB33.out.fr0 F4
  have B84 := HB8.out.fr0 F4
  have k0 := B14.cell 0 rfl
  have k1 := B14.cell 1 rfl
  have m0 := B84.cell 0 rfl
  have m1 := B84.cell 1 rfl
  have l1 := B14.lt
  have l2 := B24.lt
  have l3 := B34.lt
  have l8 := B84.lt
  have O3 := Lib.hid o3
  have HF4 := Lib.hid F4
  have BB3 := Lib.hid b3
  have HB24 := Lib.hid B24
  have HB14 := Lib.hid B14
  have HB84 := Lib.hid B84
  have HB34 := Lib.hid B34
  clear o3 f3 b3 F4 k4 B14 B24 B34 B84
  go_wp2_with fail
  have hg3 : ∀ k, (Value.slice G3 m.alive.length d3).ownBlock = some k → W2.heap.size + 1 ≤ k := fun k hk => by
    have h1 := BB3.out k hk
    have h2 := HB8.out.lt
    omega
  have hB1 : Bk W4 w.heap.size 31 [.int .i64 m.places, .int .i64 m.gens, .slice U m.used.length uc, .slice F m.free.length fc, .slice A m.alive.length ac] := HB14.out
  have hB8 : Bk W4 W2.heap.size 41 [.int .i64 q, .int .i64 (y + 1)] := HB84.out
  have hsA : (W4.alloc (.cells #[.int .i64 q, .int .i64 (y + 1)] 41)).drew.cell? ⟨w.heap.size, 0, none⟩ = some (.int .i64 m.places) ∧ (W4.alloc (.cells #[.int .i64 q, .int .i64 (y + 1)] 41)).drew.cell? ⟨w.heap.size, 1, none⟩ = some (.int .i64 m.gens) ∧ (W4.alloc (.cells #[.int .i64 q, .int .i64 (y + 1)] 41)).drew.cell? ⟨W2.heap.size, 0, none⟩ = some (.int .i64 q) ∧ (W4.alloc (.cells #[.int .i64 q, .int .i64 (y + 1)] 41)).drew.cell? ⟨W2.heap.size, 1, none⟩ = some (.int .i64 (y + 1)) :=
    ⟨(hB1.al _).drew.cell 0 rfl, (hB1.al _).drew.cell 1 rfl, (hB8.al _).drew.cell 0 rfl, (hB8.al _).drew.cell 1 rfl⟩
  have hsS : ∀ (v' : Value) (w' : World), Fr (fun k => (Value.slice G3 m.alive.length d3).ownBlock = some k ∧ v'.ownBlock = some k) (W4.alloc (.cells #[.int .i64 q, .int .i64 (y + 1)] 41)).drew w' →
      w'.cell? ⟨w.heap.size, 0, none⟩ = some (.int .i64 m.places) ∧ w'.cell? ⟨w.heap.size, 1, none⟩ = some (.int .i64 m.gens) ∧ w'.cell? ⟨W2.heap.size, 0, none⟩ = some (.int .i64 q) ∧ w'.cell? ⟨W2.heap.size, 1, none⟩ = some (.int .i64 (y + 1)) := fun v' w' hf => by
    have b1 := ((hB1.al (.cells #[.int .i64 q, .int .i64 (y + 1)] 41)).drew).fr hf (fun h => by have := hg3 _ h.1; omega)
    have b8 := ((hB8.al (.cells #[.int .i64 q, .int .i64 (y + 1)] 41)).drew).fr hf (fun h => by have := hg3 _ h.1; omega)
    exact ⟨b1.cell 0 rfl, b1.cell 1 rfl, b8.cell 0 rfl, b8.cell 1 rfl⟩
  have hsK : ∀ (W : World) (b j : Nat) (u : Value), (b = w.heap.size + 1 ∨ b = w.heap.size + 1 + 1) → (W.cell? ⟨w.heap.size, 0, none⟩ = some (.int .i64 m.places) ∧ W.cell? ⟨w.heap.size, 1, none⟩ = some (.int .i64 m.gens) ∧ W.cell? ⟨W2.heap.size, 0, none⟩ = some (.int .i64 q) ∧ W.cell? ⟨W2.heap.size, 1, none⟩ = some (.int .i64 (y + 1))) → ((W.setCell ⟨b, j, none⟩ u).cell? ⟨w.heap.size, 0, none⟩ = some (.int .i64 m.places) ∧ (W.setCell ⟨b, j, none⟩ u).cell? ⟨w.heap.size, 1, none⟩ = some (.int .i64 m.gens) ∧ (W.setCell ⟨b, j, none⟩ u).cell? ⟨W2.heap.size, 0, none⟩ = some (.int .i64 q) ∧ (W.setCell ⟨b, j, none⟩ u).cell? ⟨W2.heap.size, 1, none⟩ = some (.int .i64 (y + 1))) := fun W b j u hb h => by
    have e : ∀ c i : Nat, c ≠ b → (W.setCell ⟨b, j, none⟩ u).cell? ⟨c, i, none⟩ = W.cell? ⟨c, i, none⟩ := fun c i hc => World.cell?_setCell_other _ _ _ _ (by intro e; injection e with e; exact hc e.symm)
    refine ⟨(e _ _ ?_).trans h.1, (e _ _ ?_).trans h.2.1, (e _ _ ?_).trans h.2.2.1, (e _ _ ?_).trans h.2.2.2⟩ <;> omega
  have hsZ : W4.drew.cell? ⟨w.heap.size, 0, none⟩ = some (.int .i64 m.places) ∧ W4.drew.cell? ⟨w.heap.size, 1, none⟩ = some (.int .i64 m.gens) ∧ W4.drew.cell? ⟨W2.heap.size, 0, none⟩ = some (.int .i64 q) ∧ W4.drew.cell? ⟨W2.heap.size, 1, none⟩ = some (.int .i64 (y + 1)) := ⟨k0, k1, m0, m1⟩
  have HSZ := Lib.hid hsZ
  have HKS := Lib.hid hsK
  have HSS := Lib.hid hsS
  clear hsK hsZ
  have HSA := Lib.hid hsA
  have HG3 := Lib.hid hg3
  clear hsS hsA hB1 hB8 hg3
  go_region_held3 (fun W => W.cell? ⟨w.heap.size, 0, none⟩ = some (.int .i64 m.places) ∧ W.cell? ⟨w.heap.size, 1, none⟩ = some (.int .i64 m.gens) ∧ W.cell? ⟨W2.heap.size, 0, none⟩ = some (.int .i64 q) ∧ W.cell? ⟨W2.heap.size, 1, none⟩ = some (.int .i64 (y + 1))) (first | with_reducible exact HSZ.out | with_reducible exact HSA.out | (repeat' (first | (with_reducible exact HSW.out) | (with_reducible refine HKS.out _ _ _ _ (by first | exact .inl rfl | exact .inr rfl) ?_)))) (first | (refine step_append_keep _ rfl _ _ 29 rfl 41 i1 (.agg #[.int .i64 0, .int .i64 0]) 2 16 Try.underlying29 hi1 hy0 hy3 hy4 rfl (by decide) _ m.alive.length _ rfl (O3.out.al _).drew ⟨W4.heap.size, 0, none⟩ 1 1 [.int .i64 q, .int .i64 (y + 1)] rfl rfl (one_new (W := W4)) (by simp [Value.oneCell']) (by simp [maxLen]; omega) (by omega) ?_; intro v' w' hv1 hv2 hfr hvb; obtain ⟨G4, d4, rfl, _, _⟩ := Ow.form hv1; have p := ((HB24.out.al (.cells #[.int .i64 q, .int .i64 (y + 1)] 41)).drew).fr hfr (fun h => by have := HG3.out _ h.1; omega); have r := ((HB34.out.al (.cells #[.int .i64 q, .int .i64 (y + 1)] 41)).drew).fr hfr (fun h => by have := HG3.out _ h.1; omega); have p0 := p.cell 0 rfl; have p1 := p.cell 1 rfl; have p2 := p.cell 2 rfl; have p3 := p.cell 3 rfl; have p4 := p.cell 4 rfl; have pf0 := p.free 0; have pf1 := p.free 1; have pf2 := p.free 2; have pf3 := p.free 3; have pf4 := p.free 4; have r0 := r.cell 0 rfl; have r1 := r.cell 1 rfl; have rf0 := r.free 0; have rf1 := r.free 1; have HP := Lib.hid p; have HR := Lib.hid r; have HV := Lib.hid hv1; have HSW := Lib.hid (HSS.out _ _ hfr); have HFr := Lib.hid hfr; have HVB := Lib.hid hvb; clear p r hv1 hv2 hvb hfr))
  go_wp2
  refine post_name (fun Wf hWf => ?_)
  have BF : Bk Wf (w.heap.size + 1) 31 [.int .i64 m.places, .int .i64 m.gens, .slice (some ⟨g1, 0, none⟩) m.used.length d1, .slice (some ⟨g2, 0, none⟩) xs.length d2, .slice G4 (m.alive.length + 1) d4] := by
    rw [hWf]
    exact ((((((HP.out.set 0 (.int .i64 m.places)).set 1 (.int .i64 m.gens)).set 2 (.slice (some ⟨g1, 0, none⟩) m.used.length d1)).set 3 (.slice (some ⟨g2, 0, none⟩) xs.length d2)).set 4 (.slice G4 (m.alive.length + 1) d4)).far (p := ⟨w.heap.size + 1 + 1, 0, none⟩) (by show w.heap.size + 1 ≠ w.heap.size + 1 + 1; omega) (.int .i64 q)).far (p := ⟨w.heap.size + 1 + 1, 1, none⟩) (by show w.heap.size + 1 ≠ w.heap.size + 1 + 1; omega) (.int .i64 (y + 1))
  have BR : Bk Wf (w.heap.size + 1 + 1) 41 [.int .i64 q, .int .i64 (y + 1)] := by
    rw [hWf]
    have h0 : w.heap.size + 1 + 1 ≠ w.heap.size + 1 := by omega
    exact (((((((HR.out.far (p := ⟨w.heap.size + 1, 0, none⟩) h0 (.int .i64 m.places)).far (p := ⟨w.heap.size + 1, 1, none⟩) h0 (.int .i64 m.gens)).far (p := ⟨w.heap.size + 1, 2, none⟩) h0 (.slice (some ⟨g1, 0, none⟩) m.used.length d1)).far (p := ⟨w.heap.size + 1, 3, none⟩) h0 (.slice (some ⟨g2, 0, none⟩) xs.length d2)).far (p := ⟨w.heap.size + 1, 4, none⟩) h0 (.slice G4 (m.alive.length + 1) d4)).set 0 (.int .i64 q)).set 1 (.int .i64 (y + 1)))
  have FS : Fr (fun k => k = w.heap.size + 1 ∨ k = w.heap.size + 1 + 1) w' Wf := by
    rw [hWf]
    exact (((((((Fr.refl (fun k => k = w.heap.size + 1 ∨ k = w.heap.size + 1 + 1) w').setCell (p := ⟨w.heap.size + 1, 0, none⟩) (.inl (.inl rfl)) _).setCell (p := ⟨w.heap.size + 1, 1, none⟩) (.inl (.inl rfl)) _).setCell (p := ⟨w.heap.size + 1, 2, none⟩) (.inl (.inl rfl)) _).setCell (p := ⟨w.heap.size + 1, 3, none⟩) (.inl (.inl rfl)) _).setCell (p := ⟨w.heap.size + 1, 4, none⟩) (.inl (.inl rfl)) _).setCell (p := ⟨w.heap.size + 1 + 1, 0, none⟩) (.inl (.inr rfl)) _).setCell (p := ⟨w.heap.size + 1 + 1, 1, none⟩) (.inl (.inr rfl)) _
  have q0 := BF.cell 0 rfl
  have q1 := BF.cell 1 rfl
  have q2 := BF.cell 2 rfl
  have q3 := BF.cell 3 rfl
  have q4 := BF.cell 4 rfl
  have q5 := BR.cell 0 rfl
  have q6 := BR.cell 1 rfl
  have H5 : Fr (fun k => (Value.slice G3 m.alive.length d3).ownBlock = some k ∧ (Value.slice G4 (m.alive.length + 1) d4).ownBlock = some k) W4 w' := (((Fr.refl _ W4).alloc _).drew).trans HFr.out (fun k hk => .inl hk)
  have hbig : ∀ k, (Value.slice G3 m.alive.length d3).ownBlock = some k → w.heap.size + 3 ≤ k := fun k hk => by have := HG3.out k hk; omega
  have hbig4 : ∀ k, (Value.slice G4 (m.alive.length + 1) d4).ownBlock = some k → w.heap.size + 3 ≤ k := fun k hk => by
    rcases HVB.out k hk with h | h
    · exact hbig k h
    · have h2 := HF4.out.size
      have h3 := HB8.out.lt
      have h4 : ((W4.alloc (.cells #[.int .i64 q, .int .i64 (y + 1)] 41)).drew).heap.size = W4.heap.size + 1 := by simp
      omega
  have U5 : Ow w' 3 1 (.slice (some ⟨g1, 0, none⟩) m.used.length d1) m.used.length (ic (m.used.set q (y + 1))) := (HU3.out.fr0 HF4.out).fr H5 (fun k hk h => (HU3.out.fr0 HF4.out).ne_ow O3.out (by decide) hk h.1)
  have F5 : Ow w' 3 1 (.slice (some ⟨g2, 0, none⟩) xs.length d2) xs.length (ic xs) := (HFr3.out.fr0 HF4.out).fr H5 (fun k hk h => (HFr3.out.fr0 HF4.out).ne_ow O3.out (by decide) hk h.1)
  refine bodyPost_ret (v := .tuple #[.agg #[.int .i64 m.places, .int .i64 m.gens, .slice (some ⟨g1, 0, none⟩) m.used.length d1, .slice (some ⟨g2, 0, none⟩) xs.length d2, .slice G4 (m.alive.length + 1) d4], .agg #[.int .i64 q, .int .i64 (y + 1)], .int .i64 0]) (by simp [results, Try.results18, go_sem, q0, q1, q2, q3, q4, q5, q6]) rfl ⟨_, _, _, rfl, ⟨?_, ?_, ?_, ?_⟩, ?_, ?_⟩
  · have h1 := U5.fr FS (fun k hk h => by have := own_eq hk; omega)
    have e : (m.used.set q (y + 1)).length = m.used.length := by simp
    show Ow Wf 3 1 _ (m.used.set q (y + 1)).length _
    rw [e]
    exact h1
  · exact F5.fr FS (fun k hk h => by have := own_eq hk; omega)
  · have e : hc (m.alive ++ [((q : Int), y + 1)]) = hc m.alive ++ [.int .i64 q, .int .i64 (y + 1)] := by rw [hc_append]; rfl
    have el : (m.alive ++ [((q : Int), y + 1)]).length = m.alive.length + 1 := by simp
    show Ow Wf 41 2 _ (m.alive ++ [((q : Int), y + 1)]).length (hc (m.alive ++ [((q : Int), y + 1)]))
    rw [e, el]
    exact HV.out.fr FS (fun k hk h => by have := hbig4 k hk; omega)
  · exact ⟨by simpa using s1, hxl, by simp; omega⟩
  · intro k hk
    rcases hk with hk | hk | hk
    · have := own_eq hk; omega
    · have := own_eq hk; omega
    · have := hbig4 k hk; omega
  · exact (((HF3.out.tr HF4.out).trans H5 (fun k hk => .inr (by have := hbig k hk.1; omega))).trans FS (fun k hk => .inr (by omega)))
end Go.Proofs.Ytncpfbffdilpnaa
