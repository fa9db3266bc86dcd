/-
  day.Mask, whole.
-/
import Derived.Test.YtnjfefbeemicaaaDoorDayB
namespace Go.Proofs.YtnjfefbeemicaaaDoor
open Go.RowKit Go.Shelf

/-- Each field's bits are 64. -/
structure Sp.Wf (x : Sp) : Prop where
  mi : x.mi < 2 ^ 64
  ho : x.ho < 2 ^ 64
  da : x.da < 2 ^ 64
  mo : x.mo < 2 ^ 64
  we : x.we < 2 ^ 64
/-- What day.Mask answers of a spec that may be one. -/
def maskR (x : Sp) (y m : Int) : Int × Int := if y < 1970 ∨ 2999 < y ∨ m < 1 ∨ 12 < m then (0, 1) else (x.mask (qOf y.toNat m.toNat), 0)
theorem maskR_bad (x : Sp) {y m : Int} (h : y < 1970 ∨ 2999 < y ∨ m < 1 ∨ 12 < m) : maskR x y m = (0, 1) := by unfold maskR; rw [if_pos h]
theorem maskR_ok (x : Sp) (q : Nat) (h : q < 12360) : maskR x (yq q) ((kq q : Int) + 1) = ((x.mask q : Int), 0) := by
  have := kq_lt q
  unfold maskR
  rw [if_neg (by unfold yq; omega)]
  rw [show qOf (Int.toNat (yq q)) (Int.toNat ((kq q : Int) + 1)) = q by unfold qOf yq kq; omega]
theorem date_q (y m : Int) (h : ¬ (y < 1970 ∨ 2999 < y ∨ m < 1 ∨ 12 < m)) : ∃ q, q < 12360 ∧ y = yq q ∧ m = (kq q : Int) + 1 := by
  refine ⟨(y.toNat - 1970) * 12 + (m.toNat - 1), by omega, ?_, ?_⟩
  · unfold yq; omega
  · unfold kq; omega
def MaskC (v r : Int) (w : World) (e : Ending) (w' : World) : Prop := e = .returned (.tuple #[.int .u32 v, .int .i64 r]) ∧ Fr (fun _ => False) w w'
theorem day_at (q : Nat) (y m : Int) (w : World) (hq : q < 12360) (hy : y = yq q) (hm : m = (kq q : Int) + 1) : Calls Tryd.prog 90 #[.int .i64 y, .int .i64 m, .int .i64 1] w fun e w' => e = .returned (.tuple #[.int .i64 (fd q), .int .i64 0]) ∧ w' = w := by
  subst hy hm
  have C := day_ok (yq q) (kq q) 1 w (by unfold yq; omega) (by unfold yq; omega) (kq_lt q) (by omega) (by have := lq_pos q; unfold lq at this; omega)
  have e : ((ys (yq q - 1970) : Int) + ms (yq q) (kq q) + (1 : Nat) - 1) = fd q := by unfold fd; rw [show yq q - 1970 = q / 12 by unfold yq; omega]; omega
  rw [e] at C
  exact C
set_option maxRecDepth 8000 in
set_option maxHeartbeats 1000000 in
theorem mask1_any (x : Sp) (y m : Int) (bY bm bx : Nat) (w : World) (hx : x.Wf) (kx : Bk w bx 26 x.cs) (km : Bk w bm 3 [.int .i64 m]) (ky : Bk w bY 3 [.int .i64 y]) :
    Calls Tryd.prog 122 #[.pointer (some ⟨bY, 0, none⟩), .pointer (some ⟨bm, 0, none⟩), .pointer (some ⟨bx, 0, none⟩)] w fun e w' => MaskC (maskR x y m).1 (maskR x y m).2 w e w' := by
  have c0 := km.cell 0 rfl
  have c1 := ky.cell 0 rfl
  by_cases hd : y < 1970 ∨ 2999 < y ∨ m < 1 ∨ 12 < m
  · rw [maskR_bad x hd]
    have HC := Lib.hid (fun w => day_bad y m 1 w (by unfold lenI; split <;> (try split) <;> omega))
    clear hd kx km ky hx
    go_enter Tryd.func122, Tryd.ntmps122
    go_wp2_with (go_at_call 90; refine (HC.out _).mono ?_; rintro e w1 ⟨rfl, rfl⟩)
    refine (unlessU_wrong _ _ _ _).mono ?_
    rintro e w2 ⟨rfl, rfl⟩
    go_wp2_with fail
    go_ret2
    exact ⟨rfl, (Fr.refl _ _).alloc _⟩
  · obtain ⟨q, hq, rfl, rfl⟩ := date_q y m hd
    rw [maskR_ok x q hq]
    have HC := Lib.hid (fun w => day_at q _ _ w hq rfl rfl)
    have fa : Fr (fun _ => False) w (w.alloc (.cells #[.int .i64 (fd q)] 3)) := (Fr.refl _ w).alloc _
    have kf := Bk.new w [.int .i64 (fd q)] 3
    have HM := Lib.hid (unlessU_then 1 123 #[.pointer (some ⟨bx, 0, none⟩), .pointer (some ⟨bm, 0, none⟩), .pointer (some ⟨w.heap.size, 0, none⟩), .pointer (some ⟨bY, 0, none⟩)] _ (enters_of Tryd.func123 (by kernel_rfl) rfl) (fun v r w' => v = (x.mask q : Int) ∧ r = 0 ∧ Fr (fun _ => False) w w')
      ((mask2_ok x q bx bm w.heap.size bY _ hq hx.da hx.we hx.mo (kx.fr0 fa) (km.fr0 fa) kf (ky.fr0 fa)).mono (by rintro e w' ⟨rfl, f⟩; exact ⟨_, _, rfl, rfl, rfl, fa.tr f⟩)))
    clear hd kx km ky hx fa kf
    generalize x.mask q = M at *
    go_enter Tryd.func122, Tryd.ntmps122
    go_wp2_with fail
    refine (HC.out _).mono ?_
    rintro e w1 ⟨rfl, hw⟩
    subst hw
    go_wp2_with fail
    refine HM.out.mono ?_
    rintro e w2 ⟨v, r, rfl, rfl, rfl, f2⟩
    have HF := Lib.hid f2
    clear f2
    go_wp2_with fail
    go_ret2
    exact ⟨rfl, HF.out⟩
set_option maxRecDepth 8000 in
set_option maxHeartbeats 1000000 in
theorem mask_any (x : Sp) (y m : Int) (w : World) (hx : x.Wf) : Calls Tryd.prog 87 #[.agg x.cs.toArray, .int .i64 y, .int .i64 m] w fun e w' => MaskC (if x.ok then (maskR x y m).1 else 0) (if x.ok then (maskR x y m).2 else 2) w e w' := by
  have f0 : Fr (fun _ => False) w (((w.alloc (.cells x.cs.toArray 26)).alloc (.cells #[.int .i64 y] 3)).alloc (.cells #[.int .i64 m] 3)) := (((Fr.refl _ w).alloc _).alloc _).alloc _
  have kx := ((Bk.new w x.cs 26).al (.cells #[.int .i64 y] 3)).al (.cells #[.int .i64 m] 3)
  have ky := (Bk.new (w.alloc (.cells x.cs.toArray 26)) [.int .i64 y] 3).al (.cells #[.int .i64 m] 3)
  have km := Bk.new ((w.alloc (.cells x.cs.toArray 26)).alloc (.cells #[.int .i64 y] 3)) [.int .i64 m] 3
  simp only [World.size_alloc] at km ky
  have HO := Lib.hid (fun w => dodd_any x w)
  have HK := Lib.hid (And.intro f0 (And.intro kx (And.intro ky km)))
  clear f0 kx ky km
  cases hb : x.ok <;> rw [hb] at HO <;> clear hb
  · clear hx
    go_enter Tryd.func87, Tryd.ntmps87
    go_wp2_with fail
    refine (HO.out _).mono ?_
    rintro e w1 ⟨rfl, f1⟩
    have HF := Lib.hid (HK.out.1.tr f1)
    clear f1
    go_wp2_with fail
    refine (unlessU_wrong _ _ _ _).mono ?_
    rintro e w2 ⟨rfl, rfl⟩
    go_wp2_with fail
    go_ret2
    exact ⟨rfl, HF.out⟩
  · have HM := Lib.hid (fun W (f : Fr (fun _ => False) _ W) => unlessU_then 2 122 #[.pointer (some ⟨w.heap.size + 1, 0, none⟩), .pointer (some ⟨w.heap.size + 1 + 1, 0, none⟩), .pointer (some ⟨w.heap.size, 0, none⟩)] W (enters_of Tryd.func122 (by kernel_rfl) rfl) (fun v r w' => v = (maskR x y m).1 ∧ r = (maskR x y m).2 ∧ Fr (fun _ => False) w w')
      ((mask1_any x y m (w.heap.size + 1) (w.heap.size + 1 + 1) w.heap.size W hx (HK.out.2.1.fr0 f) (HK.out.2.2.2.fr0 f) (HK.out.2.2.1.fr0 f)).mono (by rintro e w' ⟨rfl, f'⟩; exact ⟨_, _, rfl, rfl, rfl, (HK.out.1.tr f).tr f'⟩)))
    clear hx
    generalize (maskR x y m).1 = v1 at *
    generalize (maskR x y m).2 = v2 at *
    go_enter Tryd.func87, Tryd.ntmps87
    go_wp2_with fail
    refine (HO.out _).mono ?_
    rintro e w1 ⟨rfl, f1⟩
    have HF := Lib.hid f1
    clear f1
    go_wp2_with fail
    refine (HM.out _ HF.out).mono ?_
    rintro e w2 ⟨v, r, rfl, rfl, rfl, f2⟩
    have HF2 := Lib.hid f2
    clear f2
    go_wp2_with fail
    go_ret2
    exact ⟨rfl, HF2.out⟩
end Go.Proofs.YtnjfefbeemicaaaDoor
