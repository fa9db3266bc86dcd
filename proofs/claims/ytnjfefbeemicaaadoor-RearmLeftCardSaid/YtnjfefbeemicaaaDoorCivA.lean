/-
  sort.Search, over a function that answers p; the two that civil.Date hands to it.
-/
import Derived.Test.YtnjfefbeemicaaaDoorCalE
import Derived.Test.YtnjfefbeemicaaaDoorCalR
import Derived.IntWalk
namespace Go.Proofs.YtnjfefbeemicaaaDoor
open Go.RowKit

/-- What sort.Search answers. -/
def SearchIs (n : Nat) (p : Nat → Bool) (w : World) (e : Ending) (w' : World) : Prop := ∃ k : Nat, k ≤ n ∧ e = .returned (.int .i64 k) ∧ (∀ t, t < k → p t = false) ∧ (∀ t, k ≤ t → t < n → p t = true) ∧ Fr (fun _ => False) w w'
theorem mid_shr (lo hi : Nat) : ((lo : Int) + (hi : Int)) / 2 = (((lo + hi) / 2 : Nat) : Int) := by omega
theorem above_true {n md : Nat} {p : Nat → Bool} (hm : ∀ a d, a + d < n → p a = true → p (a + d) = true) (hp : p md = true) (t : Nat) (h : md ≤ t) (hn : t < n) : p t = true := by
  have := hm md (t - md) (by omega) hp
  rwa [show md + (t - md) = t by omega] at this
theorem below_false {n md : Nat} {p : Nat → Bool} (hm : ∀ a d, a + d < n → p a = true → p (a + d) = true) (hp : p md = false) (t : Nat) (h : t < md + 1) (hn : md < n) : p t = false := by
  cases e : p t
  · rfl
  · rw [above_true hm e md (by omega) hn] at hp; cases hp
set_option maxRecDepth 8000 in
set_option maxHeartbeats 2000000 in
theorem search_any (g : Nat) (cb : Array Value) (n : Nat) (p : Nat → Bool) (w : World) (eg : ∀ args w, (callFunc g args).run Tryd.prog w = .ok (.enter g args) w) (hn : n ≤ 100000)
    (hf : ∀ (W : World) (i : Nat), Fr (fun _ => False) w W → i < n → Calls Tryd.prog g (#[.int .i64 i] ++ cb) W fun e w' => e = .returned (.bool (p i)) ∧ Fr (fun _ => False) W w')
    (hmono : ∀ i, i + 1 < n → p i = true → p (i + 1) = true) :
    Calls Tryd.prog 91 #[.int .i64 n, .func (.func g) #[] cb] w fun e w' => SearchIs n p w e w' := by
  have HF := Lib.hid hf
  have hm : ∀ a d, a + d < n → p a = true → p (a + d) = true := fun a d => by
    induction d with
    | zero => exact fun _ h => h
    | succ d ih => exact fun h1 h2 => hmono _ h1 (ih (by omega) h2)
  have HM := Lib.hid hm
  clear hf hmono hm
  go_enter Tryd.func91, Tryd.ntmps91
  go_wp2_with fail
  go_loopw [5, 6] (fun s5 s6 wr => ∃ lo hi : Nat, lo ≤ hi ∧ hi ≤ n ∧ s5 = .int .i64 lo ∧ s6 = .int .i64 hi ∧ Hid ((∀ t, t < lo → p t = false) ∧ (∀ t, hi ≤ t → t < n → p t = true) ∧ Fr (fun _ => False) w wr)) (fun s5 s6 _ => (intOf s6).toNat - (intOf s5).toNat)
  case atStart => exact ⟨0, n, Nat.zero_le _, Nat.le_refl _, rfl, rfl, Lib.hid ⟨fun t ht => absurd ht (by omega), fun t h1 h2 => absurd h1 (by omega), Fr.refl _ w⟩⟩
  case round =>
    obtain ⟨lo, hi, h1, h2, rfl, rfl, HI⟩ := hrel
    by_cases hlt : lo < hi
    · have HC := Lib.hid (HF.out wr ((lo + hi) / 2) HI.out.2.2 (by omega))
      have e2 := mid_shr lo hi
      have E2 := Lib.hid e2
      clear e2
      obtain ⟨md, hmd⟩ : ∃ md, md = (lo + hi) / 2 := ⟨_, rfl⟩
      have b1 : lo ≤ md := by omega
      have b2 : md < hi := by omega
      rw [← hmd] at HC E2
      clear hmd
      go_wp2_with fail
      rw [E2.out]
      cases hp : p md <;> rw [hp] at HC
      · have HP := Lib.hid hp
        clear hp
        refine HC.out.mono ?_
        rintro e w1 ⟨rfl, f1⟩
        go_wp2_with fail
        go_roundw
        case rel => exact ⟨md + 1, hi, by omega, h2, by go_num, rfl, Lib.hid ⟨fun t ht => below_false HM.out HP.out t ht (by omega), HI.out.2.1, HI.out.2.2.tr f1⟩⟩
        case measure => simp [intOf]; omega
      · have HP := Lib.hid hp
        clear hp
        refine HC.out.mono ?_
        rintro e w1 ⟨rfl, f1⟩
        go_wp2_with fail
        go_roundw
        case rel => exact ⟨lo, md, by omega, by omega, rfl, rfl, Lib.hid ⟨HI.out.1, fun t h3 h4 => above_true HM.out HP.out t h3 h4, HI.out.2.2.tr f1⟩⟩
        case measure => simp [intOf]; omega
    · have hk : lo = hi := by omega
      subst hk
      go_wp2_with fail
      go_ret
      exact ⟨lo, h2, rfl, HI.out.1, HI.out.2.1, HI.out.2.2⟩
end Go.Proofs.YtnjfefbeemicaaaDoor
