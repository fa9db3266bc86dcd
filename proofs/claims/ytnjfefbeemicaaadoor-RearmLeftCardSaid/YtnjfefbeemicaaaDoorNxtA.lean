/-
  next.soon: the first time of a day from one on.
-/
import Derived.Test.YtnjfefbeemicaaaDoorFldA
import Derived.Test.YtnjfefbeemicaaaDoorSpecA
namespace Go.Proofs.YtnjfefbeemicaaaDoor
open Go.RowKit Go.Shelf

theorem FirstIs.bounds {b s : Nat} {r : Int} {ok : Bool} (h : FirstIs b s r ok) : 0 ≤ r ∧ r ≤ 63 := by
  rcases h with ⟨_, n, rfl, _, h, _⟩ | ⟨_, rfl, _⟩ <;> omega
theorem FirstIs.yes {b s : Nat} {r : Int} {ok : Bool} (h : FirstIs b s r ok) (n : Nat) (hn : s ≤ n) (hb : b.testBit n = true) : ok = true := by
  rcases h with ⟨h, _⟩ | ⟨_, _, h⟩
  · exact h
  · rw [h n hn] at hb; cases hb
def SoonH (x : Sp) (h : Int) (w : World) (e : Ending) (w' : World) : Prop := ∃ m : Int, e = .returned (.tuple #[.int .i64 (h * 60 + m), .bool true]) ∧ FirstIs x.mi 0 m true ∧ Fr (fun _ => False) w w'
set_option maxRecDepth 8000 in
theorem soonh_any (x : Sp) (b : Nat) (h : Int) (w : World) (h0 : 0 ≤ h) (h1 : h ≤ 63) (hm : x.mi < 2 ^ 64) (hm0 : x.mi ≠ 0) (hT : TB w) (hx : Bk w b 26 x.cs) :
    Calls Tryd.prog 136 #[.int .i64 h, .pointer (some ⟨b, 0, none⟩)] w fun e w' => SoonH x h w e w' := by
  have c0 := hx.cell 0 rfl
  have c1 := hx.cell 1 rfl
  have HF := Lib.hid (first_any x.mi 0 0 x.s0 w hm hT (by omega) rfl)
  have HY := Lib.hid (fun r ok (hr : FirstIs x.mi 0 r ok) => by obtain ⟨n, hn⟩ := bit_some hm0; exact hr.yes n (by omega) hn)
  clear hm hm0
  go_enter Tryd.func136, Tryd.ntmps136
  go_wp2_with (go_at_call 53; refine HF.out.mono ?_; rintro e w1 ⟨r, ok, rfl, hr, f1⟩; have hb := hr.bounds; obtain ⟨hb0, hb1⟩ := hb; have HR := Lib.hid (And.intro hr f1); clear hr f1)
  go_ret2
  exact ⟨r, rfl, by have := HR.out.1; rw [HY.out _ _ this] at this; exact this, HR.out.2⟩
def SoonC (x : Sp) (t : Nat) (w : World) (e : Ending) (w' : World) : Prop := ∃ r ok, e = .returned (.tuple #[.int .i64 r, .bool ok]) ∧ SoonIs x t r ok ∧ Fr (fun _ => False) w w'
set_option maxRecDepth 8000 in
set_option maxHeartbeats 2000000 in
theorem soon_any (x : Sp) (t : Nat) (w : World) (ht : t < 1440) (hm : x.mi < 2 ^ 60) (hho : x.ho < 2 ^ 24) (hm0 : x.mi ≠ 0) (hT : TB w) :
    Calls Tryd.prog 116 #[.agg x.cs.toArray, .int .i64 t] w fun e w' => SoonC x t w e w' := by
  have fb : Fr (fun _ => False) w (w.alloc (.cells x.cs.toArray 26)) := (Fr.refl _ w).alloc _
  have kb := Bk.new w x.cs 26
  have HF1 := Lib.hid (first_any x.mi (t % 60) ((t : Int) % 60) x.s0 _ (by omega) (hT.fr fb) (by omega) (by omega))
  have HF2 := Lib.hid (fun W (h : TB W) => first_any x.ho (t / 60 + 1) ((t : Int) / 60 + 1) x.s1 W (by omega) h (by omega) (by omega))
  have HH := Lib.hid (fun W => has_at x.ho (t / 60) ((t : Int) / 60) x.s1 W (by omega) (by omega) (by omega))
  have HC := Lib.hid (fun h W h0 h1 hT hx => soonh_any x w.heap.size h W h0 h1 (by omega) hm0 hT hx)
  have HP := Lib.hid (And.intro hm (And.intro hho (And.intro ht hT)))
  have HK := Lib.hid (And.intro fb kb)
  clear hm hho hm0 hT fb kb
  go_enter Tryd.func116, Tryd.ntmps116
  go_wp2_with fail
  refine HF1.out.mono ?_
  rintro e w1 ⟨r, ok, rfl, hr, f1⟩
  obtain ⟨hb0, hb1⟩ := hr.bounds
  have k1 := HK.out.2.fr0 f1
  have a0 := k1.cell 2 rfl
  have a1 := k1.cell 3 rfl
  have HR := Lib.hid (And.intro hr (HK.out.1.tr f1))
  have HK1 := Lib.hid k1
  clear hr f1 k1 HF1
  have HLater : ∀ (w2 : World) (g2 : Fr (fun _ => False) w w2) (k2 : Bk w2 w.heap.size 26 x.cs), True := fun _ _ _ => trivial
  clear HLater
  cases ok
  · go_wp2_with fail
    have HT1 := Lib.hid (HP.out.2.2.2.fr HR.out.2)
    refine (HF2.out _ HT1.out).mono ?_
    rintro e w2 ⟨r2, ok2, rfl, hr2, f2⟩
    obtain ⟨hc0, hc1⟩ := hr2.bounds
    have HR2 := Lib.hid (And.intro hr2 (HR.out.2.tr f2))
    have HK2 := Lib.hid (HK1.out.fr0 f2)
    clear hr2 f2
    cases ok2
    · go_wp2_with fail
      go_ret2
      exact ⟨0, false, rfl, soon_none (.inl ⟨r, HR.out.1⟩) HR2.out.1, HR2.out.2⟩
    · go_wp2_with (go_at_call 136; refine (HC.out _ _ hc0 hc1 (HP.out.2.2.2.fr HR2.out.2) HK2.out).mono ?_; rintro e w3 ⟨m, rfl, hm, f3⟩; obtain ⟨hd0, hd1⟩ := hm.bounds; have HR3 := Lib.hid (And.intro hm f3); clear hm f3)
      go_ret2
      exact ⟨_, true, rfl, soon_later HP.out.1 HP.out.2.1 (.inl ⟨r, HR.out.1⟩) HR2.out.1 HR3.out.1, HR2.out.2.tr HR3.out.2⟩
  · have hh : ∀ b, b = x.ho.testBit (t / 60) → x.ho.testBit (t / 60) = b := fun _ h => h.symm
    cases hbit : x.ho.testBit (t / 60) <;> rw [hbit] at HH
    · have HB := Lib.hid hbit
      clear hbit hh
      go_wp2_with fail
      refine (HH.out _).mono ?_
      rintro e w2 ⟨rfl, f2⟩
      have k2 := HK1.out.fr0 f2
      have a2 := k2.cell 2 rfl
      have a3 := k2.cell 3 rfl
      have HR1 := Lib.hid (HR.out.2.tr f2)
      have HK2 := Lib.hid k2
      clear k2 f2 a0 a1
      go_wp2_with fail
      refine (HF2.out _ (HP.out.2.2.2.fr HR1.out)).mono ?_
      rintro e w3 ⟨r2, ok2, rfl, hr2, f2⟩
      obtain ⟨hc0, hc1⟩ := hr2.bounds
      have HR2 := Lib.hid (And.intro hr2 (HR1.out.tr f2))
      have HK3 := Lib.hid (HK2.out.fr0 f2)
      clear hr2 f2
      cases ok2
      · go_wp2_with fail
        go_ret2
        exact ⟨0, false, rfl, soon_none (.inr HB.out) HR2.out.1, HR2.out.2⟩
      · go_wp2_with (go_at_call 136; refine (HC.out _ _ hc0 hc1 (HP.out.2.2.2.fr HR2.out.2) HK3.out).mono ?_; rintro e w3 ⟨m, rfl, hm, f3⟩; obtain ⟨hd0, hd1⟩ := hm.bounds; have HR3 := Lib.hid (And.intro hm f3); clear hm f3)
        go_ret2
        exact ⟨_, true, rfl, soon_later HP.out.1 HP.out.2.1 (.inr HB.out) HR2.out.1 HR3.out.1, HR2.out.2.tr HR3.out.2⟩
    · have HB := Lib.hid hbit
      clear hbit hh
      go_wp2_with fail
      refine (HH.out _).mono ?_
      rintro e w2 ⟨rfl, f2⟩
      have HR1 := Lib.hid (HR.out.2.tr f2)
      clear f2
      go_wp2_with fail
      go_ret2
      exact ⟨_, true, rfl, by have := soon_here HP.out.1 HP.out.2.2.1 HR.out.1 HB.out; simpa using this, HR1.out⟩
end Go.Proofs.YtnjfefbeemicaaaDoor
