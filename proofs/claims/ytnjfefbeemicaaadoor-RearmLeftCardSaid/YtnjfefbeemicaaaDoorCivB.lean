/-
  civil.Date: the date of a day, as the document's.
-/
import Derived.Test.YtnjfefbeemicaaaDoorCivA
import Derived.Shelf.Abstract
import Derived.Deep.RegionHeld3
namespace Go.Proofs.YtnjfefbeemicaaaDoor
open Go.RowKit Go.Shelf

theorem ahead_at (k : Nat) (y : Int) (w : World) (h : k ≤ 2000) (hy : y = (k : Int) + 1970) : Calls Tryd.prog 93 #[.int .i64 y] w fun e w' => e = .returned (.int .i64 (ys k)) ∧ w' = w := hy ▸ ahead_any k w h
theorem gone_at (y k : Nat) (y' m : Int) (w : World) (h : k ≤ 12) (hy : y' = y) (hm : m = (k : Int) + 1) : Calls Tryd.prog 95 #[.int .i64 y', .int .i64 m] w fun e w' => e = .returned (.int .i64 (ms y k)) ∧ w' = w := hy ▸ hm ▸ gone_any y k w h
theorem i64_of {a b : Int} (h : a = b) (h1 : -9223372036854775808 ≤ b) (h2 : b ≤ 9223372036854775807) : IntKind.i64.wrap a = b := by rw [h]; exact IntWalk.i64_in _ ⟨h1, h2⟩
set_option maxRecDepth 8000 in
theorem datef1_any (b i D : Nat) (w : World) (hi : i < 1029) (h : Bk w b 3 [.int .i64 D]) : Calls Tryd.prog 92 #[.int .i64 i, .pointer (some ⟨b, 0, none⟩)] w fun e w' => e = .returned (.bool (decide (D < ys (i + 1)))) ∧ Fr (fun _ => False) w w' := by
  have h0 := h.cell 0 rfl
  have C := Lib.hid (fun w => ahead_at (i + 1) (1970 + (i : Int) + 1) w (by omega) (by omega))
  have e1 : IntKind.i64.wrap (1970 + (i : Int)) = 1970 + (i : Int) := IntWalk.i64_in _ (by omega)
  have e2 : IntKind.i64.wrap (1970 + (i : Int) + 1) = 1970 + (i : Int) + 1 := IntWalk.i64_in _ (by omega)
  clear h hi
  generalize ys (i + 1) = Y at *
  go_enter Tryd.func92, Tryd.ntmps92
  go_wp2_with fail
  go_quiet ((go_at_call 93; exact Calls.quiet_of_same (C.out _)))
  go_wp2_with fail
  go_ret
  exact ⟨by simp, (Fr.refl _ w).drewN _⟩
set_option maxRecDepth 8000 in
theorem datef2_any (b c i D y : Nat) (w : World) (hi : i < 11) (h : Bk w b 3 [.int .i64 ((y : Int) + 1970)]) (h' : Bk w c 3 [.int .i64 D]) : Calls Tryd.prog 94 #[.int .i64 i, .pointer (some ⟨b, 0, none⟩), .pointer (some ⟨c, 0, none⟩)] w fun e w' => e = .returned (.bool (decide (D < ms (y + 1970) (i + 1)))) ∧ Fr (fun _ => False) w w' := by
  have h0 := h.cell 0 rfl
  have h1 := h'.cell 0 rfl
  have C := Lib.hid (fun w => gone_at (y + 1970) (i + 1) ((y : Int) + 1970) ((i : Int) + 2) w (by omega) (by omega) (by omega))
  have e1 : IntKind.i64.wrap ((i : Int) + 2) = (i : Int) + 2 := IntWalk.i64_in _ (by omega)
  clear h h' hi
  generalize ms (y + 1970) (i + 1) = Y at *
  go_enter Tryd.func94, Tryd.ntmps94
  go_wp2_with fail
  go_quiet ((go_at_call 95; exact Calls.quiet_of_same (C.out _)))
  go_wp2_with fail
  go_ret
  exact ⟨by simp, (Fr.refl _ w).drewN _⟩
theorem search_at (g : Nat) (cb : Array Value) (n : Nat) (n' : Int) (p : Nat → Bool) (w : World) (eg : ∀ args w, (callFunc g args).run Tryd.prog w = .ok (.enter g args) w) (hn : n ≤ 100000) (hn' : n' = n)
    (hf : ∀ (W : World) (i : Nat), Fr (fun _ => False) w W → i < n → Calls Tryd.prog g (#[.int .i64 i] ++ cb) W fun e w' => e = .returned (.bool (p i)) ∧ Fr (fun _ => False) W w')
    (hmono : ∀ i, i + 1 < n → p i = true → p (i + 1) = true) :
    Calls Tryd.prog 91 #[.int .i64 n', .func (.func g) #[] cb] w fun e w' => SearchIs n p w e w' := hn' ▸ search_any g cb n p w eg hn hf hmono
theorem Fr.undrew {S : Nat → Prop} {W W1 : World} (h : Fr S W.drew W1) : Fr S W W1 := ⟨h.os, h.tape, h.output, h.size, h.block⟩
def DateOk (D : Nat) (w : World) (e : Ending) (w' : World) : Prop := ∃ y m d : Nat, e = .returned (.tuple #[.int .i64 y, .int .i64 m, .int .i64 d, .int .i64 0]) ∧ IsDate D y m d ∧ y ≤ 2999 ∧ Fr (fun _ => False) w w'
set_option maxRecDepth 8000 in
set_option maxHeartbeats 2000000 in
theorem date_ok (D : Nat) (w : World) (h : D ≤ 376199) : Calls Tryd.prog 46 #[.int .i64 D] w fun e w' => DateOk D w e w' := by
  have t1 : decide ((D : Int) < 0) = false := by simp
  have t2 : decide (376199 < D) = false := by simpa using h
  have t3 : decide ((376199 : Int) < D) = false := by simp; omega
  have k0 := Bk.new w [.int .i64 D] 3
  have f0 : Fr (fun _ => False) w (w.alloc (.cells #[.int .i64 D] 3)) := (Fr.refl _ w).alloc _
  have S := search_at 92 #[.pointer (some ⟨w.heap.size, 0, none⟩)] 1029 1029 (fun i => decide (D < ys (i + 1))) _ (enters_of Tryd.func92 (by kernel_rfl) rfl) (by omega) rfl
    (fun W i hW hi => datef1_any w.heap.size i D W hi (k0.fr0 hW)) (fun i hi hp => by have := ys_succ (i + 1); simp at hp ⊢; omega)
  have HS := Lib.hid S
  have HK := Lib.hid (And.intro k0 f0)
  clear S k0 f0
  go_enter Tryd.func46, Tryd.ntmps46
  go_wp2_with (go_at_call 91; refine HS.out.mono ?_; rintro e w1 ⟨k, hk, rfl, hlo, hhi, f1⟩)
  have hB := Lib.hid (And.intro hlo hhi)
  have HA := Lib.hid (fun w => ahead_at k (1970 + (k : Int)) w (by omega) (by omega))
  have kD : Bk (w1.alloc (.cells #[.int .i64 (1970 + (k : Int))] 3)) w.heap.size 3 [.int .i64 D] := (HK.out.1.fr0 f1).al _
  have kY : Bk (w1.alloc (.cells #[.int .i64 (1970 + (k : Int))] 3)) w1.heap.size 3 [.int .i64 (1970 + (k : Int))] := Bk.new w1 [.int .i64 (1970 + (k : Int))] 3
  have fW : Fr (fun _ => False) w (w1.alloc (.cells #[.int .i64 (1970 + (k : Int))] 3)) := (HK.out.2.tr f1).alloc _
  have hlt : w.heap.size < w1.heap.size := (HK.out.1.fr0 f1).lt
  clear hlo hhi
  refine wp_name ?_
  intro W2 hW2
  rw [← hW2] at kD kY fW
  clear hW2
  have c0 := kD.cell 0 rfl
  have c1 := kY.cell 0 rfl
  have z0 := kD.free 0
  have HK2 := Lib.hid (And.intro kD (And.intro kY fW))
  clear kD kY fW f1
  have by0 : ys k ≤ D := by
    rcases Nat.eq_zero_or_pos k with rfl | h
    · exact Nat.zero_le _
    · have := hB.out.1 (k - 1) (by omega); rw [show k - 1 + 1 = k by omega] at this; simpa using this
  have by1 : D < ys (k + 1) := by
    rcases Nat.lt_or_ge k 1029 with h | h
    · have := hB.out.2 k (Nat.le_refl _) h; simpa using this
    · obtain rfl : k = 1029 := by omega
      have := ys_top 1030 rfl
      show D < ys 1030
      omega
  have hs := Lib.hid (ys_succ k)
  have BY := Lib.hid by1
  clear by1
  obtain ⟨Y, hY⟩ : ∃ Y, Y = ys k := ⟨_, rfl⟩
  rw [← hY] at HA hs by0
  have HYY := Lib.hid hY
  clear hY
  have e1 : IntKind.i64.wrap ((D : Int) - (Y : Int)) = (D : Int) - (Y : Int) := IntWalk.i64_in _ (by omega)
  have hsearch : ∀ W3, Bk W3 w.heap.size 3 [.int .i64 ((D : Int) - (Y : Int))] → Bk W3 w1.heap.size 3 [.int .i64 (1970 + (k : Int))] → Calls Tryd.prog 91 #[.int .i64 11, .func (.func 94) #[] #[.pointer (some ⟨w1.heap.size, 0, none⟩), .pointer (some ⟨w.heap.size, 0, none⟩)]] W3 fun e w' => SearchIs 11 (fun i => decide (D - Y < ms (k + 1970) (i + 1))) W3 e w' := fun W3 g1 g2 =>
    search_at 94 #[.pointer (some ⟨w1.heap.size, 0, none⟩), .pointer (some ⟨w.heap.size, 0, none⟩)] 11 11 (fun i => decide (D - Y < ms (k + 1970) (i + 1))) W3 (enters_of Tryd.func94 (by kernel_rfl) rfl) (by omega) rfl
      (fun W i hW hi => datef2_any w1.heap.size w.heap.size i (D - Y) k W hi (by rw [show ((k : Int) + 1970) = 1970 + (k : Int) by omega]; exact g2.fr0 hW) (by rw [show ((D - Y : Nat) : Int) = (D : Int) - (Y : Int) by omega]; exact g1.fr0 hW))
      (fun i hi hp => by have h1 : ms (k + 1970) (i + 1 + 1) = ms (k + 1970) (i + 1) + len (k + 1970) (i + 1 + 1) := rfl; simp at hp ⊢; omega)
  have HS2 := Lib.hid hsearch
  clear hsearch HS
  go_region_with ((go_at_call 93; with_reducible refine (HA.out _).mono ?_; rintro e w4 ⟨rfl, rfl⟩))
  all_goals
    have g1 := HK2.out.1.set 0 (.int .i64 ((D : Int) - (Y : Int)))
    have g2 := HK2.out.2.1.far (p := ⟨w.heap.size, 0, none⟩) (by simp; omega) (.int .i64 ((D : Int) - (Y : Int)))
    have g3 := HK2.out.2.2.setCell (p := ⟨w.heap.size, 0, none⟩) (.inr (Nat.le_refl _)) (.int .i64 ((D : Int) - (Y : Int)))
    have HG := Lib.hid (And.intro g1 (And.intro g2 g3))
    clear g1 g2 g3
    go_wp2_with (go_at_call 91; refine (HS2.out _ ?_ ?_).mono ?_; exact HG.out.1; exact HG.out.2.1; rintro e w5 ⟨j, hj, rfl, jlo, jhi, f5⟩)
    have f6 : Fr (fun _ => False) (W2.setCell ⟨w.heap.size, 0, none⟩ (.int .i64 ((D : Int) - (Y : Int)))) w5 := f5.undrew
    have c2 := (HG.out.1.fr0 f6).cell 0 rfl
    have c3 := (HG.out.2.1.fr0 f6).cell 0 rfl
    have HJ := Lib.hid (And.intro jlo jhi)
    have HF5 := Lib.hid (HG.out.2.2.tr f6)
    clear jlo jhi f5 f6 c0 c1 z0
    have hx : ms (k + 1970) j ≤ D - Y := by
      rcases Nat.eq_zero_or_pos j with rfl | h
      · exact Nat.zero_le _
      · have := HJ.out.1 (j - 1) (by omega); rw [show j - 1 + 1 = j by omega] at this; simpa using this
    have hd := days_pos (k + 1970)
    have hy : D - Y < ms (k + 1970) (j + 1) := by
      rcases Nat.lt_or_ge j 11 with h | h
      · have := HJ.out.2 j (Nat.le_refl _) h; simpa using this
      · obtain rfl : j = 11 := by omega
        show D - Y < ms (k + 1970) 12
        rw [ms_12]
        have := BY.out; have := hs.out; omega
    have hM : ms (k + 1970) (j + 1) = ms (k + 1970) j + len (k + 1970) (j + 1) := rfl
    have hdate : IsDate D (k + 1970) (j + 1) (D - Y - ms (k + 1970) j + 1) := ⟨by omega, by omega, by omega, by omega, by omega, by rw [show k + 1970 - 1970 = k by omega, ← HYY.out, show j + 1 - 1 = j by omega]; omega⟩
    have HD := Lib.hid hdate
    have b9 := ms_bound (k + 1970) j (by omega)
    have HG7 := Lib.hid (fun w => gone_at (k + 1970) j (1970 + (k : Int)) (1 + (j : Int)) w (by omega) (by omega) (by omega))
    clear hdate hM hy hd
    generalize ms (k + 1970) j = M at *
    have e7 : IntKind.i64.wrap ((D : Int) - (Y : Int) - (M : Int)) = (D : Int) - (Y : Int) - (M : Int) := IntWalk.i64_in _ (by omega)
    have e8 : IntKind.i64.wrap ((D : Int) - (Y : Int) - (M : Int) + 1) = (D : Int) - (Y : Int) - (M : Int) + 1 := IntWalk.i64_in _ (by omega)
    go_quiet ((go_at_call 95; exact Calls.quiet_of_same (HG7.out _)))
    go_wp2_with fail
    refine bodyPost_ret (v := .tuple #[.int .i64 (1970 + (k : Int)), .int .i64 (1 + (j : Int)), .int .i64 ((D : Int) - (Y : Int) - (M : Int) + 1), .int .i64 0]) (by simp [results, Tryd.results46, go_sem]) rfl ⟨k + 1970, j + 1, D - Y - M + 1, ?_, HD.out, by omega, HF5.out.drewN _⟩
    rw [show ((k + 1970 : Nat) : Int) = 1970 + (k : Int) by omega, show ((j + 1 : Nat) : Int) = 1 + (j : Int) by omega, show ((D - Y - M + 1 : Nat) : Int) = (D : Int) - (Y : Int) - (M : Int) + 1 by omega]
end Go.Proofs.YtnjfefbeemicaaaDoor
