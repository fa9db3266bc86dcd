/-
  The walks of Take where nothing was freed, of Alive and of Free.
-/
import Derived.Test.YtncpfbffdilpnaaWalkC
namespace Go.Proofs.Ytncpfbffdilpnaa
open Go.RowKit

theorem take_open (g : Nat) (vp vf : Value) (s : St) (w : World) (H : Slb w g vp vf s) (o1 o2 : Obj) : Slb ((w.alloc o1).alloc o2) g vp vf s := (H.fr (((Fr.refl (fun _ => False) w).alloc o1).alloc o2) (fun _ _ => id))

theorem take_fresh (g : Nat) (vp vf : Value) (s : St) (w : World) (H : Slb w g vp vf s) (hf : s.free = []) (hl : (s.ps.length : Int) < s.most) (hm : s.most ≤ 1024) (ha : 0 ≤ s.alive ∧ s.alive ≤ 1024) :
    Calls Try.prog 10 #[.pointer (some ⟨g,0,none⟩)] w fun e w' => e = .returned (.tuple #[.agg #[.int .i64 s.ps.length, .int .i64 1], .int .i64 0]) ∧
      ∃ vp' vf', Slb w' g vp' vf' ⟨s.most, s.gens, s.ps ++ [(1, true)], [], s.alive + 1⟩ ∧ (∀ k, vp'.ownBlock = some k → vp.ownBlock = some k ∨ w.heap.size ≤ k) ∧ (∀ k, vf'.ownBlock = some k → vf.ownBlock = some k ∨ w.heap.size ≤ k) ∧ Fr (own g vp vf) w w' := by
  obtain ⟨hl1, hl2⟩ := H.small
  have hgl := H.bk.lt
  obtain ⟨A, c, rfl, _, _⟩ := H.pl.form
  have hfl : ∃ B d, vf = .slice B 0 d := by obtain ⟨B, d, e, _⟩ := H.fl.form; rw [hf] at e; exact ⟨B, d, e⟩
  obtain ⟨B, d, rfl⟩ := hfl
  have HH := Lib.hid H
  have HF := Lib.hid hf
  clear H hf
  go_enter Try.func10, Try.ntmps10
  go_wp2_with fail
  obtain ⟨W0, hW0⟩ : ∃ W0, W0 = (w.alloc (.cells #[.int .i64 0, .int .i64 0] 41)).alloc (.cells #[.func (.func 34) #[.pointer (some ⟨g, 3, none⟩)] #[], .func (.func 35) #[.pointer (some ⟨g, 0, none⟩)] #[]] 68) := ⟨_, rfl⟩
  rw [← hW0]
  have hF0 : Fr (fun _ => False) w W0 := by rw [hW0]; exact ((Fr.refl _ w).alloc _).alloc _
  have hS0 : Slb W0 g (.slice A s.ps.length c) (.slice B 0 d) s := by rw [hW0]; exact take_open _ _ _ _ _ HH.out _ _
  have hK0 : W0.cell? ⟨w.heap.size + 1, 0, none⟩ = some (.func (.func 34) #[.pointer (some ⟨g, 3, none⟩)] #[]) := by rw [hW0]; simp
  have hK1 : W0.cell? ⟨w.heap.size + 1, 1, none⟩ = some (.func (.func 35) #[.pointer (some ⟨g, 0, none⟩)] #[]) := by rw [hW0]; simp
  have hR0 : Bk W0 w.heap.size 41 [.int .i64 0, .int .i64 0] := by rw [hW0]; exact (Bk.new w _ _).fr ((Fr.refl (fun _ => False) _).alloc _) (by simp)
  have HW0 := Lib.hid hW0
  have HR0 := Lib.hid hR0
  have HF0 := Lib.hid hF0
  have HS0 := Lib.hid hS0
  clear hW0 hR0 hF0 hS0
  refine wp_loop_rounds 2 ?_
  rw [rounds_succ]
  go_wp2_with fail
  refine (pop_none g B d W0 (HS0.out.bk.cell 3 rfl)).mono ?_
  rintro e w1 ⟨rfl, rfl⟩
  go_wp2_with fail
  rw [rounds_succ]
  go_wp2_with fail
  refine (fresh_more g s.most s.gens s.alive (.slice A s.ps.length c) (.slice B 0 d) s.ps.length (pc s.ps) W0 hl (by omega) HS0.out.pl HS0.out.bk).mono ?_
  rintro e w1 ⟨rfl, vp', hb, ho, hown, hf⟩
  obtain ⟨bp, cp, rfl, _, _⟩ := ho.pos (by omega)
  have hr1 : Bk w1 w.heap.size 41 [.int .i64 0, .int .i64 0] := HR0.out.fr hf (fun h => by
    rcases h with h | h
    · omega
    · have := HH.out.pl.lt h; omega)
  have hfl : Ow w1 3 1 (.slice B 0 d) 0 (ic []) := by
    have h1 := HS0.out.fl
    rw [HF.out] at h1
    refine h1.fr hf (fun k hk h => ?_)
    rcases h with h | h
    · exact h1.ne_bk HS0.out.bk (by decide) hk h
    · exact h1.ne_ow HS0.out.pl (by decide) hk h
  have e1 : pc s.ps ++ [.int .i64 0, .bool false] = pc (s.ps ++ [(0, false)]) := by rw [pc_append]; rfl
  rw [e1] at ho
  have hq : (s.ps ++ [((0 : Int), false)])[s.ps.length]? = some (0, false) := by simp
  have d0 := ho.cell (s.ps.length * 2) (pc_get0 _ _ _ hq)
  have d1 := ho.cell (s.ps.length * 2 + 1) (pc_get1 _ _ _ hq)
  have g0 := ho.free (s.ps.length * 2)
  have g1 := ho.free (s.ps.length * 2 + 1)
  have c2 := hb.cell 2 rfl
  have c4 := hb.cell 4 rfl
  have f4 := hb.free 4
  have r0 := hr1.cell 0 rfl
  have r1 := hr1.cell 1 rfl
  have rf0 := hr1.free 0
  have rf1 := hr1.free 1
  have hne1 : bp ≠ g := ho.ne_bk hb (by decide) rfl
  have hne2 : w.heap.size ≠ g := by omega
  have hne3 : w.heap.size ≠ bp := fun h => ho.ne_bk hr1 (by decide) rfl h.symm
  have HB := Lib.hid hb
  have HO := Lib.hid ho
  have HFr := Lib.hid hf
  have HP := Lib.hid hfl
  have HR := Lib.hid hr1
  have HQ := Lib.hid hq
  have HW := Lib.hid (hown bp rfl)
  clear hb ho hf hfl hr1 e1 hq hown
  go_wp2
  go_region
  go_wp2
  refine bodyPost_ret (v := .tuple #[.agg #[.int .i64 s.ps.length, .int .i64 1], .int .i64 0]) (by simp [results, Try.results10, go_sem, r0, r1]) rfl ⟨rfl, ?_⟩
  have hfin := take_close g bp cp w.heap.size (.slice B 0 d) ⟨s.most, s.gens, s.ps ++ [(0, false)], [], s.alive⟩ [] s.ps.length 0 false w w1 (own g (.slice A s.ps.length c) (.slice B 0 d)) (by simpa using HB.out) (by simpa using HO.out) HP.out HR.out HQ.out (by simp; omega) (by simp) hne1 hne2 hne3 ((HF0.out.mono (fun k hk => hk.elim)).trans HFr.out (fun k hk => hk.elim (fun h => .inl (.inl h)) (fun h => .inl (.inr (.inl h))))) (.inl rfl) (HW.out.elim (fun h => .inl (.inr (.inl h))) (fun h => .inr (Nat.le_trans HF0.out.size h))) (Nat.le_refl _)
  obtain ⟨r1, r2⟩ := hfin
  exact ⟨_, _, by simpa using r1, fun k hk => (by have := own_eq hk; subst this; exact HW.out.imp id (fun h => Nat.le_trans HF0.out.size h)), fun k hk => .inl hk, r2⟩

theorem take_none (g : Nat) (vp vf : Value) (s : St) (w : World) (H : Slb w g vp vf s) (hf : s.free = []) (hl : (s.ps.length : Int) = s.most) :
    Calls Try.prog 10 #[.pointer (some ⟨g,0,none⟩)] w fun e w' => e = .returned (.tuple #[.agg #[.int .i64 0, .int .i64 0], .int .i64 6]) ∧ Fr (fun _ => False) w w' := by
  obtain ⟨hl1, hl2⟩ := H.small
  have hgl := H.bk.lt
  obtain ⟨A, c, rfl, _, _⟩ := H.pl.form
  have hfl : ∃ B d, vf = .slice B 0 d := by obtain ⟨B, d, e, _⟩ := H.fl.form; rw [hf] at e; exact ⟨B, d, e⟩
  obtain ⟨B, d, rfl⟩ := hfl
  have HH := Lib.hid H
  have HF := Lib.hid hf
  have HL := Lib.hid hl
  clear H hf hl
  go_enter Try.func10, Try.ntmps10
  go_wp2_with fail
  obtain ⟨W0, hW0⟩ : ∃ W0, W0 = (w.alloc (.cells #[.int .i64 0, .int .i64 0] 41)).alloc (.cells #[.func (.func 34) #[.pointer (some ⟨g, 3, none⟩)] #[], .func (.func 35) #[.pointer (some ⟨g, 0, none⟩)] #[]] 68) := ⟨_, rfl⟩
  rw [← hW0]
  have hF0 : Fr (fun _ => False) w W0 := by rw [hW0]; exact ((Fr.refl _ w).alloc _).alloc _
  have hS0 : Slb W0 g (.slice A s.ps.length c) (.slice B 0 d) s := by rw [hW0]; exact take_open _ _ _ _ _ HH.out _ _
  have hK0 : W0.cell? ⟨w.heap.size + 1, 0, none⟩ = some (.func (.func 34) #[.pointer (some ⟨g, 3, none⟩)] #[]) := by rw [hW0]; simp
  have hK1 : W0.cell? ⟨w.heap.size + 1, 1, none⟩ = some (.func (.func 35) #[.pointer (some ⟨g, 0, none⟩)] #[]) := by rw [hW0]; simp
  have hR0 : Bk W0 w.heap.size 41 [.int .i64 0, .int .i64 0] := by rw [hW0]; exact (Bk.new w _ _).fr ((Fr.refl (fun _ => False) _).alloc _) (by simp)
  have r0 := hR0.cell 0 rfl
  have r1 := hR0.cell 1 rfl
  have f0 := hR0.free 0
  have f1 := hR0.free 1
  have HW0 := Lib.hid hW0
  have HF0 := Lib.hid hF0
  have HS0 := Lib.hid hS0
  clear hW0 hR0 hF0 hS0
  refine wp_loop_rounds 3 ?_
  rw [rounds_succ]
  go_wp2_with fail
  refine (pop_none g B d W0 (HS0.out.bk.cell 3 rfl)).mono ?_
  rintro e w1 ⟨rfl, rfl⟩
  go_wp2_with fail
  rw [rounds_succ]
  go_wp2_with fail
  refine (fresh_full g s.gens s.alive (.slice B 0 d) A s.ps.length c W0 (by rw [HL.out]; exact HS0.out.bk)).mono ?_
  rintro e w1 ⟨rfl, m, rfl⟩
  go_wp2_with fail
  rw [rounds_succ]
  go_wp2_with fail
  refine bodyPost_ret (v := .tuple #[.agg #[.int .i64 0, .int .i64 0], .int .i64 6]) (by simp [results, Try.results10, go_sem, r0, r1]) rfl ⟨rfl, ?_⟩
  exact (((HF0.out.drewN m).setCell (p := ⟨w.heap.size, 0, none⟩) (.inr (Nat.le_refl _)) _).setCell (p := ⟨w.heap.size, 1, none⟩) (.inr (Nat.le_refl _)) _)

end Go.Proofs.Ytncpfbffdilpnaa
