/-
  The walks of Take, Free and Alive.
-/
import Derived.Test.YtncpfbffdilpnaaWalkB
import Derived.Maps.AppendAt
import Derived.LoopN
namespace Go.Proofs.Ytncpfbffdilpnaa
open Go.RowKit

theorem push_any (g : Nat) (a0 a1 a2 a4 : Value) (vf : Value) (n : Nat) (xs : List Int) (x : Int) (w : World) (H : Bk w g 53 [a0, a1, a2, vf, a4]) (hown : Ow w 3 1 vf n (ic xs)) (hn : n ≤ 1024) :
    Calls Try.prog 36 #[.pointer (some ⟨g,3,none⟩), .int .i64 x] w fun e w' => e = .returned (.tuple #[]) ∧ ∃ vf', Bk w' g 53 [a0, a1, a2, vf', a4] ∧ Ow w' 3 1 vf' (n + 1) (ic (xs ++ [x])) ∧
      (∀ k, vf'.ownBlock = some k → vf.ownBlock = some k ∨ w.heap.size ≤ k) ∧ Fr (fun k => k = g ∨ vf.ownBlock = some k) w w' := by
  obtain ⟨A, c, rfl, hc1, hc2⟩ := hown.form
  have c3 := H.cell 3 rfl
  have HH := Lib.hid H
  have HO := Lib.hid hown
  clear H hown
  obtain ⟨i0, hi, hz0, hz1, hz2⟩ := info_parts Try.info3
  go_enter Try.func36, Try.ntmps36
  go_wp2_with (at_builtin; refine wpList_append_own_at _ rfl _ _ 28 rfl 0 3 i0 (.int .i64 0) 1 8 Try.underlying28 hi hz0 hz1 hz2 rfl (by decide) _ _ _ rfl (World.ownsRow.alloc HO.out _) ⟨w.heap.size, 0, none⟩ 1 1 [.int .i64 x] rfl rfl ?c1 ?c2 ?c3 ?c4 ?c5 ?_)
  case c1 => exact one_new (W := w)
  case c2 => simp [Value.oneCell']
  case c3 => simp [maxLen]; omega
  case c4 => omega
  case c5 => simp
  intro v' w' h1 h2 _ h5
  obtain ⟨A', c', rfl, hc3, hc4⟩ := Ow.form h1
  have H5 := Lib.hid h5
  clear h5
  have hf0 : Fr (fun k => (Value.slice A n c).ownBlock = some k) w w' := ((Fr.refl _ w).alloc _).grown h2 (fun k hk => .inl hk)
  have hg := HH.out.fr hf0 (fun hk => HO.out.ne_bk HH.out (by decide) hk rfl)
  have d3 := hg.cell 3 rfl
  have f3 := hg.free 3
  have HG := Lib.hid hg
  clear hg
  go_wp2
  go_end0
  refine ⟨rfl, _, HG.out.set 3 _, ?_, ?_, (hf0.mono (fun k hk => .inl (.inr hk))).setCell (.inl (.inl rfl)) _⟩
  · rw [ic_append]
    exact Ow.fr h1 ((Fr.refl (fun k => k = g) w').setCell (.inl rfl) _) (fun k hk e => by subst e; exact Ow.ne_bk h1 HG.out (by decide) hk rfl)
  · intro k hk
    rcases H5.out with h | h
    · exact .inl (h ▸ hk)
    · rw [h] at hk
      injection hk with hk
      exact .inr (by have : w.heap.size + 1 = k := hk; omega)

theorem take_close (g bp cp r : Nat) (vf' : Value) (s : St) (xs : List Int) (q : Nat) (y : Int) (b0 : Bool) (w w1 : World) (S : Nat → Prop)
    (HB : Bk w1 g 53 [.int .i64 s.most, .int .i64 s.gens, .slice (some ⟨bp, 0, none⟩) s.ps.length cp, vf', .int .i64 s.alive])
    (HP : Ow w1 62 2 (.slice (some ⟨bp, 0, none⟩) s.ps.length cp) s.ps.length (pc s.ps)) (HO : Ow w1 3 1 vf' xs.length (ic xs)) (HR : Bk w1 r 41 [.int .i64 0, .int .i64 0])
    (hq : s.ps[q]? = some (y, b0)) (hl1 : s.ps.length ≤ 1024) (hl2 : xs.length ≤ 1024) (hne1 : bp ≠ g) (hne2 : r ≠ g) (hne3 : r ≠ bp)
    (hF : Fr S w w1) (hg : S g) (hb : S bp ∨ w.heap.size ≤ bp) (hr : w.heap.size ≤ r) :
    Slb (((((w1.setCell ⟨bp, q * 2, none⟩ (.int .i64 (y + 1))).setCell ⟨bp, q * 2 + 1, none⟩ (.bool true)).setCell ⟨g, 4, none⟩ (.int .i64 (s.alive + 1))).setCell ⟨r, 0, none⟩ (.int .i64 q)).setCell ⟨r, 1, none⟩ (.int .i64 (y + 1))).drew
      g (.slice (some ⟨bp, 0, none⟩) s.ps.length cp) vf' ⟨s.most, s.gens, s.ps.set q (y + 1, true), xs, s.alive + 1⟩ ∧
    Fr S w (((((w1.setCell ⟨bp, q * 2, none⟩ (.int .i64 (y + 1))).setCell ⟨bp, q * 2 + 1, none⟩ (.bool true)).setCell ⟨g, 4, none⟩ (.int .i64 (s.alive + 1))).setCell ⟨r, 0, none⟩ (.int .i64 q)).setCell ⟨r, 1, none⟩ (.int .i64 (y + 1))).drew := by
  have hq1 : q < s.ps.length := (List.getElem?_eq_some_iff.1 hq).1
  have n1 : ∀ k, vf'.ownBlock = some k → k ≠ bp := fun k hk e => by subst e; exact HO.ne_ow HP (by decide) hk rfl
  have n2 : ∀ k, vf'.ownBlock = some k → k ≠ g := fun k hk => HO.ne_bk HB (by decide) hk
  have n3 : ∀ k, vf'.ownBlock = some k → k ≠ r := fun k hk => HO.ne_bk HR (by decide) hk
  refine ⟨⟨?_, ?_, ?_, ?_⟩, ?_⟩
  · have h1 := (HB.far (p := ⟨bp, q * 2, none⟩) (Ne.symm hne1) (.int .i64 (y + 1))).far (p := ⟨bp, q * 2 + 1, none⟩) (Ne.symm hne1) (.bool true)
    have h2 := ((h1.set 4 (.int .i64 (s.alive + 1))).far (p := ⟨r, 0, none⟩) (Ne.symm hne2) (.int .i64 q)).far (p := ⟨r, 1, none⟩) (Ne.symm hne2) (.int .i64 (y + 1))
    exact h2.drew
  · have h1 := (HP.set (q * 2) (.int .i64 (y + 1))).set (q * 2 + 1) (.bool true)
    rw [pc_set0 _ _ _ _ hq, pc_set1 _ _ (y + 1, b0) true (by simp [hq1])] at h1
    have h2 := ((h1.far (p := ⟨g, 4, none⟩) (fun k hk => by injection hk with hk; subst hk; exact hne1) (.int .i64 (s.alive + 1))).far (p := ⟨r, 0, none⟩) (fun k hk => by injection hk with hk; subst hk; exact Ne.symm hne3) (.int .i64 q)).far (p := ⟨r, 1, none⟩) (fun k hk => by injection hk with hk; subst hk; exact Ne.symm hne3) (.int .i64 (y + 1))
    have e : (s.ps.set q (y + 1, true)).length = s.ps.length := by simp
    rw [List.set_set] at h2
    show Ow _ 62 2 _ (s.ps.set q (y + 1, true)).length _
    rw [e]
    exact h2.drew
  · exact ((((HO.far (p := ⟨bp, q * 2, none⟩) n1 (.int .i64 (y + 1))).far (p := ⟨bp, q * 2 + 1, none⟩) n1 (.bool true)).far (p := ⟨g, 4, none⟩) n2 (.int .i64 (s.alive + 1))).far (p := ⟨r, 0, none⟩) n3 (.int .i64 q)).far (p := ⟨r, 1, none⟩) n3 (.int .i64 (y + 1)) |>.drew
  · exact ⟨by simpa using hl1, hl2⟩
  · exact (((((hF.setCell (p := ⟨bp, q * 2, none⟩) hb _).setCell (p := ⟨bp, q * 2 + 1, none⟩) hb _).setCell (p := ⟨g, 4, none⟩) (.inl hg) _).setCell (p := ⟨r, 0, none⟩) (.inr hr) _).setCell (p := ⟨r, 1, none⟩) (.inr hr) _).drew

theorem take_pop (g : Nat) (vp vf : Value) (s : St) (xs : List Int) (q : Nat) (y : Int) (b0 : Bool) (w : World) (H : Slb w g vp vf s) (hf : s.free = xs ++ [(q : Int)]) (hq : s.ps[q]? = some (y, b0)) (hy : 0 ≤ y ∧ y ≤ 65535) (ha : 0 ≤ s.alive ∧ s.alive ≤ 1024) :
    Calls Try.prog 10 #[.pointer (some ⟨g,0,none⟩)] w fun e w' => e = .returned (.tuple #[.agg #[.int .i64 q, .int .i64 (y + 1)], .int .i64 0]) ∧
      ∃ vp' vf', Slb w' g vp' vf' ⟨s.most, s.gens, s.ps.set q (y + 1, true), xs, s.alive + 1⟩ ∧ (∀ k, vp'.ownBlock = some k → vp.ownBlock = some k ∨ w.heap.size ≤ k) ∧ (∀ k, vf'.ownBlock = some k → vf.ownBlock = some k ∨ w.heap.size ≤ k) ∧ Fr (own g vp vf) w w' := by
  obtain ⟨hl1, hl2⟩ := H.small
  have hxl : s.free.length = xs.length + 1 := by rw [hf]; simp
  have hq1 : q < s.ps.length := (List.getElem?_eq_some_iff.1 hq).1
  obtain ⟨bp, cp, rfl, _, _⟩ := H.pl.pos (by omega)
  have hbp := H.pl.lt rfl
  have hgl := H.bk.lt
  have hfl : Ow w 3 1 vf (xs.length + 1) (ic (xs ++ [(q : Int)])) := by have := H.fl; rw [hf] at this; simpa using this
  have HH := Lib.hid H
  have HFL := Lib.hid hfl
  have HF := Lib.hid hf
  have HQ := Lib.hid hq
  have HX := Lib.hid hxl
  clear H hf hq hxl hfl
  go_enter Try.func10, Try.ntmps10
  go_wp2_with fail
  obtain ⟨W0, hW0⟩ : ∃ W0, W0 = (w.alloc (.cells #[.int .i64 0, .int .i64 0] 41)).alloc (.cells #[.func (.func 34) #[.pointer (some ⟨g, 3, none⟩)] #[], .func (.func 35) #[.pointer (some ⟨g, 0, none⟩)] #[]] 68) := ⟨_, rfl⟩
  rw [← hW0]
  have hF0 : Fr (fun _ => False) w W0 := by rw [hW0]; exact ((Fr.refl _ w).alloc _).alloc _
  have hK0 : W0.cell? ⟨w.heap.size + 1, 0, none⟩ = some (.func (.func 34) #[.pointer (some ⟨g, 3, none⟩)] #[]) := by rw [hW0]; simp
  have hR0 : Bk W0 w.heap.size 41 [.int .i64 0, .int .i64 0] := by rw [hW0]; exact (Bk.new w _ _).fr ((Fr.refl (fun _ => False) _).alloc _) (by simp)
  have HW0 := Lib.hid hW0
  have HR0 := Lib.hid hR0
  have HF0 := Lib.hid hF0
  clear hW0 hR0 hF0
  refine wp_loop_rounds 1 ?_
  rw [rounds_succ]
  go_wp2_with fail
  have hS1 : Slb W0 g (.slice (some ⟨bp, 0, none⟩) s.ps.length cp) vf s := HH.out.fr HF0.out (by simp)
  have hf1 : Ow W0 3 1 vf (xs.length + 1) (ic (xs ++ [(q : Int)])) := HFL.out.fr HF0.out (by simp)
  have HS1 := Lib.hid hS1
  have HF1 := Lib.hid hf1
  clear hS1 hf1
  refine (pop_some g _ _ _ _ vf xs.length xs q W0 HS1.out.bk HF1.out (by have := HX.out; omega)).mono ?_
  rintro e w1 ⟨rfl, vf', hb, ho, he, hf⟩
  have hp1 : Ow w1 62 2 (.slice (some ⟨bp, 0, none⟩) s.ps.length cp) s.ps.length (pc s.ps) := HS1.out.pl.fr hf (fun k hk e => by subst e; exact HS1.out.pl.ne_bk HS1.out.bk (by decide) hk rfl)
  have hr1 : Bk w1 w.heap.size 41 [.int .i64 0, .int .i64 0] := HR0.out.fr hf (by omega)
  have d0 := hp1.cell (q * 2) (pc_get0 _ _ _ HQ.out)
  have d1 := hp1.cell (q * 2 + 1) (pc_get1 _ _ _ HQ.out)
  have g0 := hp1.free (q * 2)
  have g1 := hp1.free (q * 2 + 1)
  have c2 := hb.cell 2 rfl
  have c4 := hb.cell 4 rfl
  have f4 := hb.free 4
  have r0 := hr1.cell 0 rfl
  have r1 := hr1.cell 1 rfl
  have rf0 := hr1.free 0
  have rf1 := hr1.free 1
  have hne1 : bp ≠ g := hp1.ne_bk hb (by decide) rfl
  have hne2 : w.heap.size ≠ g := by omega
  have hne3 : w.heap.size ≠ bp := by omega
  have HE := Lib.hid he
  have HB := Lib.hid hb
  have HO := Lib.hid ho
  have HFr := Lib.hid hf
  have HP := Lib.hid hp1
  have HR := Lib.hid hr1
  clear he hb ho hf hp1 hr1
  go_wp2
  go_region
  go_wp2
  refine bodyPost_ret (v := .tuple #[.agg #[.int .i64 q, .int .i64 (y + 1)], .int .i64 0]) (by simp [results, Try.results10, go_sem, r0, r1]) rfl ⟨rfl, ?_⟩
  obtain ⟨r1, r2⟩ := take_close g bp cp w.heap.size vf' s xs q y b0 w w1 _ HB.out HP.out HO.out HR.out HQ.out hl1 (by have := HX.out; omega) hne1 hne2 hne3 ((HF0.out.mono (S' := own g (.slice (some ⟨bp, 0, none⟩) s.ps.length cp) vf) (fun k hk => hk.elim)).trans HFr.out (fun k hk => .inl (.inl hk))) (.inl rfl) (.inl (.inr (.inl rfl))) (Nat.le_refl _)
  exact ⟨_, _, r1, fun k hk => .inl hk, fun k hk => .inl (HE.out ▸ hk), r2⟩
end Go.Proofs.Ytncpfbffdilpnaa
