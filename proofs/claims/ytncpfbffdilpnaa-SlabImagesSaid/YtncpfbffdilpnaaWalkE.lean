/-
  The walks of Alive and of Free.
-/
import Derived.Test.YtncpfbffdilpnaaWalkD
namespace Go.Proofs.Ytncpfbffdilpnaa
open Go.RowKit
/-- No such handle is alive. -/
theorem alive_no (g : Nat) (vp vf : Value) (s : St) (p y : Int) (w : World) (H : Slb w g vp vf s) (hp : p < 0 ∨ (s.ps.length : Int) ≤ p ∨ ∃ z, s.ps[p.toNat]? = some (z, false)) :
    Calls Try.prog 11 #[.pointer (some ⟨g, 0, none⟩), .agg #[.int .i64 p, .int .i64 y]] w fun e w' => e = .returned (.bool false) ∧ Fr (fun _ => False) w w' := by
  have HH := Lib.hid H
  have HP := Lib.hid hp
  clear H hp
  go_enter Try.func11, Try.ntmps11
  go_wp2_with fail
  refine (at_none g vp vf s p _ (HH.out.fr ((Fr.refl (fun _ => False) w).alloc _) (fun _ _ => id)) HP.out).mono ?_
  rintro e w1 ⟨rfl, hf⟩
  have HF := Lib.hid hf
  clear hf
  go_wp2
  go_ret
  exact ⟨rfl, (((Fr.refl (fun _ => False) w).alloc _).trans HF.out (fun _ h => h.elim)).alloc _⟩
theorem alive_at (g : Nat) (vp vf : Value) (s : St) (q : Nat) (z y : Int) (w : World) (H : Slb w g vp vf s) (hp : s.ps[q]? = some (z, true)) :
    Calls Try.prog 11 #[.pointer (some ⟨g, 0, none⟩), .agg #[.int .i64 q, .int .i64 y]] w fun e w' => e = .returned (.bool (z == y)) ∧ Fr (fun _ => False) w w' := by
  have HH := Lib.hid H
  have HP := Lib.hid hp
  clear H hp
  go_enter Try.func11, Try.ntmps11
  go_wp2_with fail
  refine (at_some g vp vf s q z _ (HH.out.fr ((Fr.refl (fun _ => False) w).alloc _) (fun _ _ => id)) HP.out).mono ?_
  rintro e w1 ⟨rfl, hf⟩
  have hb : Bk w1 w.heap.size 41 [.int .i64 q, .int .i64 y] := (Bk.new w _ _).fr hf id
  have b0 := hb.cell 0 rfl
  have b1 := hb.cell 1 rfl
  have hlt := hb.lt
  have HF := Lib.hid hf
  clear hf hb
  have hfin : ∀ r : Bool, (z == y) = r → Ending.returned (.bool r) = Ending.returned (.bool (z == y)) := fun r h => by rw [h]
  have HFin := Lib.hid hfin
  clear hfin
  by_cases hzy : z = y
  · have HZ := Lib.hid hzy
    have hbb : (z == y) = true := by simpa using hzy
    clear hzy
    go_wp2
    go_ret
    exact ⟨HFin.out true (by simpa using HZ.out), (((Fr.refl (fun _ => False) w).alloc _).trans HF.out (fun _ h => h.elim)).alloc _⟩
  · have HZ := Lib.hid hzy
    have hbb : (z == y) = false := by simpa using hzy
    clear hzy
    go_wp2
    go_ret
    exact ⟨HFin.out false (by simpa using HZ.out), (((Fr.refl (fun _ => False) w).alloc _).trans HF.out (fun _ h => h.elim)).alloc _⟩

/-- Free of what isn't alive. -/
theorem free_no (g : Nat) (p y : Int) (w : World)
    (ha : ∀ W : World, Fr (fun _ => False) w W → Calls Try.prog 11 #[.pointer (some ⟨g, 0, none⟩), .agg #[.int .i64 p, .int .i64 y]] W fun e w' => e = .returned (.bool false) ∧ Fr (fun _ => False) W w') :
    Calls Try.prog 13 #[.pointer (some ⟨g, 0, none⟩), .agg #[.int .i64 p, .int .i64 y]] w fun e w' => e = .returned (.int .i64 5) ∧ Fr (fun _ => False) w w' := by
  have HA := Lib.hid ha
  clear ha
  go_enter Try.func13, Try.ntmps13
  go_wp2_with fail
  refine (HA.out _ ((Fr.refl (fun _ => False) w).alloc _)).mono ?_
  rintro e w1 ⟨rfl, hf⟩
  have HF := Lib.hid hf
  clear hf
  go_wp2
  go_ret
  exact ⟨rfl, (((Fr.refl (fun _ => False) w).alloc _).trans HF.out (fun _ h => h.elim))⟩

theorem free_close (g bp cp r : Nat) (vf : Value) (s : St) (q : Nat) (y : Int) (w w1 : World) (S : Nat → Prop) (H : Slb w1 g (.slice (some ⟨bp, 0, none⟩) s.ps.length cp) vf s) (HR : Bk w1 r 41 [.int .i64 q, .int .i64 y])
    (hq : s.ps[q]? = some (y, true)) (hne1 : bp ≠ g) (hne2 : r ≠ g) (hne3 : r ≠ bp) (hF : Fr S w w1) (hg : S g) (hb : S bp) (n : Nat) :
    Slb (((w1.setCell ⟨bp, q * 2 + 1, none⟩ (.bool false)).setCell ⟨g, 4, none⟩ (.int .i64 (s.alive - 1))).drew.drewN n) g (.slice (some ⟨bp, 0, none⟩) s.ps.length cp) vf ⟨s.most, s.gens, s.ps.set q (y, false), s.free, s.alive - 1⟩ ∧
    Bk (((w1.setCell ⟨bp, q * 2 + 1, none⟩ (.bool false)).setCell ⟨g, 4, none⟩ (.int .i64 (s.alive - 1))).drew.drewN n) r 41 [.int .i64 q, .int .i64 y] ∧
    Fr S w (((w1.setCell ⟨bp, q * 2 + 1, none⟩ (.bool false)).setCell ⟨g, 4, none⟩ (.int .i64 (s.alive - 1))).drew.drewN n) := by
  have n1 : ∀ k, vf.ownBlock = some k → k ≠ bp := fun k hk e => by subst e; exact H.fl.ne_ow H.pl (by decide) hk rfl
  have n2 : ∀ k, vf.ownBlock = some k → k ≠ g := fun k hk => H.fl.ne_bk H.bk (by decide) hk
  refine ⟨⟨?_, ?_, ?_, ?_⟩, ?_, ?_⟩
  · exact (((H.bk.far (p := ⟨bp, q * 2 + 1, none⟩) (Ne.symm hne1) (.bool false)).set 4 (.int .i64 (s.alive - 1))).drew).drewN n
  · have h1 := H.pl.set (q * 2 + 1) (.bool false)
    rw [pc_set1 _ _ (y, true) false hq] at h1
    have h2 := h1.far (p := ⟨g, 4, none⟩) (fun k hk => by injection hk with hk; subst hk; exact hne1) (.int .i64 (s.alive - 1))
    have e : (s.ps.set q (y, false)).length = s.ps.length := by simp
    show Ow _ 62 2 _ (s.ps.set q (y, false)).length _
    rw [e]
    exact h2.drew.drewN n
  · exact ((H.fl.far (p := ⟨bp, q * 2 + 1, none⟩) n1 (.bool false)).far (p := ⟨g, 4, none⟩) n2 (.int .i64 (s.alive - 1))).drew.drewN n
  · exact ⟨by simpa using H.small.1, H.small.2⟩
  · exact ((HR.far (p := ⟨bp, q * 2 + 1, none⟩) hne3 (.bool false)).far (p := ⟨g, 4, none⟩) hne2 (.int .i64 (s.alive - 1))).drew.drewN n
  · exact ((hF.setCell (p := ⟨bp, q * 2 + 1, none⟩) (.inl hb) _).setCell (p := ⟨g, 4, none⟩) (.inl hg) _).drew.drewN n

theorem free_yes (g : Nat) (vp vf : Value) (s : St) (q : Nat) (y : Int) (w : World) (H : Slb w g vp vf s) (hp : s.ps[q]? = some (y, true)) (hy : y < s.gens) (hfl : s.free.length < 1024) (ha : 0 ≤ s.alive ∧ s.alive ≤ 1024) :
    Calls Try.prog 13 #[.pointer (some ⟨g, 0, none⟩), .agg #[.int .i64 q, .int .i64 y]] w fun e w' => e = .returned (.int .i64 0) ∧
      ∃ vp' vf', Slb w' g vp' vf' ⟨s.most, s.gens, s.ps.set q (y, false), s.free ++ [(q : Int)], s.alive - 1⟩ ∧ (∀ k, vp'.ownBlock = some k → vp.ownBlock = some k ∨ w.heap.size ≤ k) ∧ (∀ k, vf'.ownBlock = some k → vf.ownBlock = some k ∨ w.heap.size ≤ k) ∧ Fr (own g vp vf) w w' := by
  have hq1 : q < s.ps.length := (List.getElem?_eq_some_iff.1 hp).1
  obtain ⟨bp, cp, rfl, _, _⟩ := H.pl.pos (by omega)
  have hgl := H.bk.lt
  have hbl := H.pl.lt rfl
  obtain ⟨hl1, hl2⟩ := H.small
  have HH := Lib.hid H
  have HP := Lib.hid hp
  clear H hp
  go_enter Try.func13, Try.ntmps13
  go_wp2_with fail
  refine (alive_at g _ vf s q y y _ (HH.out.fr ((Fr.refl (fun _ => False) w).alloc _) (fun _ _ => id)) HP.out).mono ?_
  rintro e w1 ⟨rfl, hf⟩
  have hb : Bk w1 w.heap.size 41 [.int .i64 q, .int .i64 y] := (Bk.new w _ _).fr hf id
  have hS : Slb w1 g (.slice (some ⟨bp, 0, none⟩) s.ps.length cp) vf s := (HH.out.fr ((Fr.refl (fun _ => False) w).alloc (.cells #[.int .i64 q, .int .i64 y] 41)) (fun _ _ => id)).fr hf (fun _ _ => id)
  have b0 := hb.cell 0 rfl
  have b1 := hb.cell 1 rfl
  have hlt := hb.lt
  have c1 := hS.bk.cell 1 rfl
  have c2 := hS.bk.cell 2 rfl
  have c4 := hS.bk.cell 4 rfl
  have f4 := hS.bk.free 4
  have d1 := hS.pl.cell (q * 2 + 1) (pc_get1 _ _ _ HP.out)
  have e1 := hS.pl.free (q * 2 + 1)
  have hne1 : bp ≠ g := hS.pl.ne_bk hS.bk (by decide) rfl
  have hne2 : w.heap.size ≠ g := by omega
  have hne3 : w.heap.size ≠ bp := by omega
  have HF := Lib.hid hf
  have HS := Lib.hid hS
  have HB := Lib.hid hb
  clear hf hb hS
  go_wp2
  go_region
  go_wp2
  go_quiet (fail)
  go_wp2_with fail
  have hF0 : Fr (own g (.slice (some ⟨bp, 0, none⟩) s.ps.length cp) vf) w w1 := ((Fr.refl (fun _ => False) w).alloc (.cells #[.int .i64 q, .int .i64 y] 41)).trans HF.out (fun _ h => h.elim) |>.mono (fun _ h => h.elim)
  refine wp_name (fun W2 hW2 => ?_)
  obtain ⟨S2, B2, F2⟩ := free_close g bp cp w.heap.size vf s q y w w1 _ HS.out HB.out HP.out hne1 hne2 hne3 hF0 (.inl rfl) (.inr (.inl rfl)) nq
  rw [← hW2] at S2 B2 F2
  have k0 := B2.cell 0 rfl
  have HS2 := Lib.hid S2
  have HF2 := Lib.hid F2
  clear S2 B2 F2 hW2 hF0 c1 c2 c4 f4 d1 e1 b0 b1 hlt
  have hpush : ∀ n, Calls Try.prog 36 #[.pointer (some ⟨g, 3, none⟩), .int .i64 q] (W2.drewN n) fun e w' => e = .returned (.tuple #[]) ∧ ∃ vp' vf', Slb w' g vp' vf' ⟨s.most, s.gens, s.ps.set q (y, false), s.free ++ [(q : Int)], s.alive - 1⟩ ∧ (∀ k, vp'.ownBlock = some k → (Value.slice (some ⟨bp, 0, none⟩) s.ps.length cp).ownBlock = some k ∨ w.heap.size ≤ k) ∧ (∀ k, vf'.ownBlock = some k → vf.ownBlock = some k ∨ w.heap.size ≤ k) ∧ Fr (own g (.slice (some ⟨bp, 0, none⟩) s.ps.length cp) vf) w w' := by
    intro n
    refine (push_any g _ _ _ _ vf s.free.length s.free q (W2.drewN n) (HS2.out.bk.drewN n) (HS2.out.fl.drewN n) (by omega)).mono ?_
    rintro e w' ⟨rfl, vf', hb, ho, hown, hf⟩
    have hpl : Ow w' 62 2 (.slice (some ⟨bp, 0, none⟩) s.ps.length cp) (s.ps.set q (y, false)).length (pc (s.ps.set q (y, false))) := (HS2.out.pl.drewN n).fr hf (fun k hk h => by
      rcases h with h | h
      · subst h; exact (HS2.out.pl).ne_bk HS2.out.bk (by decide) hk rfl
      · exact HS2.out.pl.ne_ow HS2.out.fl (by decide) hk h)
    refine ⟨rfl, _, vf', ⟨hb, hpl, by simpa using ho, by simpa using hl1, by simp; omega⟩, fun k hk => .inl hk, fun k hk => ?_, (HF2.out.drewN n).trans hf (fun k h => h.elim (fun h => .inl (.inl h)) (fun h => .inl (.inr (.inr h))))⟩
    rcases hown k hk with h | h
    · exact .inl h
    · exact .inr (Nat.le_trans HF2.out.size h)
  have HPu := Lib.hid hpush
  clear hpush
  go_region_with (go_at_call 36; refine (HPu.out 1).mono ?_; rintro e w3 ⟨rfl, vp', vf', h3⟩)
  have H3 := Lib.hid h3
  clear h3
  go_wp2
  go_ret
  exact ⟨rfl, vp', vf', H3.out⟩

theorem free_worn (g : Nat) (vp vf : Value) (s : St) (q : Nat) (y : Int) (w : World) (H : Slb w g vp vf s) (hp : s.ps[q]? = some (y, true)) (hy : y = s.gens) (ha : 0 ≤ s.alive ∧ s.alive ≤ 1024) :
    Calls Try.prog 13 #[.pointer (some ⟨g, 0, none⟩), .agg #[.int .i64 q, .int .i64 y]] w fun e w' => e = .returned (.int .i64 0) ∧
      ∃ vp' vf', Slb w' g vp' vf' ⟨s.most, s.gens, s.ps.set q (y, false), s.free, s.alive - 1⟩ ∧ (∀ k, vp'.ownBlock = some k → vp.ownBlock = some k ∨ w.heap.size ≤ k) ∧ (∀ k, vf'.ownBlock = some k → vf.ownBlock = some k ∨ w.heap.size ≤ k) ∧ Fr (own g vp vf) w w' := by
  have hlt' : ¬ y < s.gens := by omega
  clear hy
  have hq1 : q < s.ps.length := (List.getElem?_eq_some_iff.1 hp).1
  obtain ⟨bp, cp, rfl, _, _⟩ := H.pl.pos (by omega)
  have hgl := H.bk.lt
  have hbl := H.pl.lt rfl
  obtain ⟨hl1, hl2⟩ := H.small
  have HH := Lib.hid H
  have HP := Lib.hid hp
  clear H hp
  go_enter Try.func13, Try.ntmps13
  go_wp2_with fail
  refine (alive_at g _ vf s q y y _ (HH.out.fr ((Fr.refl (fun _ => False) w).alloc _) (fun _ _ => id)) HP.out).mono ?_
  rintro e w1 ⟨rfl, hf⟩
  have hb : Bk w1 w.heap.size 41 [.int .i64 q, .int .i64 y] := (Bk.new w _ _).fr hf id
  have hS : Slb w1 g (.slice (some ⟨bp, 0, none⟩) s.ps.length cp) vf s := (HH.out.fr ((Fr.refl (fun _ => False) w).alloc (.cells #[.int .i64 q, .int .i64 y] 41)) (fun _ _ => id)).fr hf (fun _ _ => id)
  have b0 := hb.cell 0 rfl
  have b1 := hb.cell 1 rfl
  have hlt := hb.lt
  have c1 := hS.bk.cell 1 rfl
  have c2 := hS.bk.cell 2 rfl
  have c4 := hS.bk.cell 4 rfl
  have f4 := hS.bk.free 4
  have d1 := hS.pl.cell (q * 2 + 1) (pc_get1 _ _ _ HP.out)
  have e1 := hS.pl.free (q * 2 + 1)
  have hne1 : bp ≠ g := hS.pl.ne_bk hS.bk (by decide) rfl
  have hne2 : w.heap.size ≠ g := by omega
  have hne3 : w.heap.size ≠ bp := by omega
  have HF := Lib.hid hf
  have HS := Lib.hid hS
  have HB := Lib.hid hb
  clear hf hb hS
  go_wp2
  go_region
  go_wp2
  go_quiet (fail)
  go_wp2_with fail
  have hF0 : Fr (own g (.slice (some ⟨bp, 0, none⟩) s.ps.length cp) vf) w w1 := ((Fr.refl (fun _ => False) w).alloc (.cells #[.int .i64 q, .int .i64 y] 41)).trans HF.out (fun _ h => h.elim) |>.mono (fun _ h => h.elim)
  obtain ⟨S2, B2, F2⟩ := free_close g bp cp w.heap.size vf s q y w w1 _ HS.out HB.out HP.out hne1 hne2 hne3 hF0 (.inl rfl) (.inr (.inl rfl)) nq
  go_ret
  exact ⟨rfl, _, _, S2, fun k hk => .inl hk, fun k hk => .inl hk, F2⟩
end Go.Proofs.Ytncpfbffdilpnaa
