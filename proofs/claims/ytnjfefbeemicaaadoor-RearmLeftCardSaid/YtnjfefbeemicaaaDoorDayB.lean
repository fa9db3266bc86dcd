/-
  day.Mask: the days of a month that match.
-/
import Derived.Test.YtnjfefbeemicaaaDoorDayA
import Derived.Laws.BitsAllLaws
namespace Go.Proofs.YtnjfefbeemicaaaDoor
open Go.RowKit Go.Shelf

theorem fd_lt {q : Nat} (h : q < 12360) : fd q + lq q ≤ 376200 := by rw [← fd_succ, ← fd_top]; exact fd_le (by omega)
def MaskOk (x : Sp) (q : Nat) (w : World) (e : Ending) (w' : World) : Prop := e = .returned (.tuple #[.int .u32 (x.mask q), .int .i64 0]) ∧ Fr (fun _ => False) w w'
theorem length_at (q : Nat) (y m : Int) (w : World) (hy : y = yq q) (hm : m = (kq q : Int) + 1) : Calls Tryd.prog 124 #[.int .i64 y, .int .i64 m] w fun e w' => e = .returned (.int .i64 (lq q)) ∧ w' = w := by
  subst hy hm
  have C := length_any (yq q) ((kq q : Int) + 1) w
  rw [lenI_succ (yq q) (kq q) (kq_lt q)] at C
  exact C
set_option maxRecDepth 8000 in
set_option maxHeartbeats 2000000 in
theorem mask2_ok (x : Sp) (q bx bm bf bY : Nat) (w : World) (hq : q < 12360) (h1 : x.da < 2 ^ 64) (h2 : x.we < 2 ^ 64) (h3 : x.mo < 2 ^ 64) (kx : Bk w bx 26 x.cs) (km : Bk w bm 3 [.int .i64 ((kq q : Int) + 1)]) (kf : Bk w bf 3 [.int .i64 (fd q)]) (ky : Bk w bY 3 [.int .i64 (yq q)]) :
    Calls Tryd.prog 123 #[.pointer (some ⟨bx, 0, none⟩), .pointer (some ⟨bm, 0, none⟩), .pointer (some ⟨bf, 0, none⟩), .pointer (some ⟨bY, 0, none⟩)] w fun e w' => MaskOk x q w e w' := by
  have hkl := kq_lt q
  have c0 := kx.cell 6 rfl
  have c1 := kx.cell 7 rfl
  have c2 := km.cell 0 rfl
  have H1 := has_at x.mo (kq q + 1) ((kq q : Int) + 1) x.s3 w h3 (by omega) (by omega)
  cases hb : x.mo.testBit (kq q + 1) <;> rw [hb] at H1
  · have hm : x.mask q = 0 := by unfold Sp.mask; rw [hb]; rfl
    have HM := Lib.hid hm
    have HH := Lib.hid H1
    clear hm hb H1 h1 h2 h3
    go_enter Tryd.func123, Tryd.ntmps123
    go_wp2_with (go_at_call 29; refine HH.out.mono ?_; rintro e w1 ⟨rfl, f1⟩; have HF := Lib.hid f1; clear f1)
    go_ret2
    exact ⟨by rw [HM.out]; rfl, HF.out⟩
  · have hm : x.mask q = x.up q (lq q) := by unfold Sp.mask; rw [hb]; rfl
    have HM := Lib.hid hm
    have HH := Lib.hid H1
    have HW := Lib.hid (fun w => week_ok (fd q) w (by have := fd_lt hq; have := lq_pos q; omega))
    have HK := Lib.hid (And.intro kx (And.intro km (And.intro kf ky)))
    have HL := Lib.hid (fun w => length_at q _ _ w rfl rfl)
    have HON := Lib.hid (fun b d wk d' wk' w hx hd hw ed ew => on_any x b d wk d' wk' w hx hd hw ed ew h1 h2)
    have HBY := Lib.hid (fun w => by_any x w)
    have eg := by_enters (x.s2 || x.s4)
    clear hm hb H1 h1 h2 h3 kx km kf ky
    generalize byF (x.s2 || x.s4) = g at *
    go_enter Tryd.func123, Tryd.ntmps123
    go_wp2_with fail
    refine HH.out.mono ?_
    rintro e w1 ⟨rfl, f1⟩
    have k1 := HK.out.1.fr0 f1
    have d2 := (HK.out.2.1.fr0 f1).cell 0 rfl
    have d3 := (HK.out.2.2.1.fr0 f1).cell 0 rfl
    have d4 := (HK.out.2.2.2.fr0 f1).cell 0 rfl
    have a0 := k1.cell 0 rfl
    have a1 := k1.cell 1 rfl
    have a2 := k1.cell 2 rfl
    have a3 := k1.cell 3 rfl
    have a4 := k1.cell 4 rfl
    have a5 := k1.cell 5 rfl
    have a6 := k1.cell 6 rfl
    have a7 := k1.cell 7 rfl
    have a8 := k1.cell 8 rfl
    have a9 := k1.cell 9 rfl
    have HF := Lib.hid f1
    clear f1 k1 c0 c1 c2
    go_wp2_with (first | (go_at_call 84; refine (HW.out _).mono ?_; rintro e w2 ⟨rfl, rfl⟩))
    refine (HBY.out _).mono ?_
    rintro e w3 ⟨rfl, f3, k3⟩
    have e2 := (HK.out.2.1.fr0 (HF.out.tr f3)).cell 0 rfl
    have e4 := (HK.out.2.2.2.fr0 (HF.out.tr f3)).cell 0 rfl
    have HF3 := Lib.hid (And.intro (HF.out.tr f3) k3)
    clear f3 k3 d2 d3 d4 a0 a1 a2 a3 a4 a5 a6 a7 a8 a9
    go_wp2_with (go_at_call 124; refine (HL.out _).mono ?_; rintro e w4 ⟨rfl, rfl⟩)
    have hl := lq_pos q
    clear e2 e4
    go_loopw [9, 26] (fun m i wr => ∃ j : Nat, j ≤ lq q ∧ i = .int .i64 j ∧ m = .int .u32 (x.up q j) ∧ Hid (Fr (fun _ => False) w wr ∧ Bk wr w2.heap.size 26 x.cs)) (fun _ i _ => 31 - (intOf i).toNat)
    case atStart => exact ⟨0, Nat.zero_le _, rfl, rfl, HF3⟩
    case round =>
      obtain ⟨j, hj, rfl, rfl, HI⟩ := hrel
      by_cases hlt : j < lq q
      · have t1 : decide (j < lq q) = true := by simpa using hlt
        have HC := HON.out w2.heap.size (j + 1) ((fd q + j + 4) % 7) ((j : Int) + 1) (((fd q : Int) + 4 + (j : Int)) % 7) wr HI.out.2 (by omega) (by omega) (by omega) (by omega)
        have hU := Lib.hid (Sp.up_or x q j)
        have hUlt := Lib.hid (Sp.up_lt x q j)
        have hp : IntKind.u32.wrap (2 * 2 ^ j) = ((2 ^ (j + 1) : Nat) : Int) := by
          have h31 : 2 ^ (j + 1) ≤ 2 ^ 31 := Nat.pow_le_pow_right (by omega) (by omega)
          have : (2 * 2 ^ j : Int) = ((2 ^ (j + 1) : Nat) : Int) := by rw [Nat.pow_succ, Nat.mul_comm]; simp
          rw [this, IntKind.wrap_u32']
          generalize 2 ^ (j + 1) = P at *
          omega
        have ho : bits BinOp.or IntKind.u32 ((x.up q j : Nat) : Int) ((2 ^ (j + 1) : Nat) : Int) = ((x.up q j ||| 2 ^ (j + 1) : Nat) : Int) := by
          have h31 : 2 ^ (j + 1) ≤ 2 ^ 31 := Nat.pow_le_pow_right (by omega) (by omega)
          have := hUlt.out
          exact u32_or_nat _ _ (by omega) (by omega)
        cases hb : x.on (j + 1) ((fd q + j + 4) % 7) <;> rw [hb] at HC hU
        · have HCC := Lib.hid HC
          clear HC hb
          go_wp2_with fail
          refine HCC.out.mono ?_
          rintro e w5 ⟨rfl, f5⟩
          have HF5 := Lib.hid f5
          clear f5
          go_wp2_with fail
          go_roundw
          case rel => exact ⟨j + 1, hlt, by go_num, by rw [hU.out]; simp, Lib.hid ⟨HI.out.1.tr HF5.out, HI.out.2.fr0 HF5.out⟩⟩
          case measure => simp [intOf]; omega
        · have HCC := Lib.hid HC
          clear HC hb
          go_wp2_with fail
          refine HCC.out.mono ?_
          rintro e w5 ⟨rfl, f5⟩
          have HF5 := Lib.hid f5
          clear f5
          go_wp2_with fail
          go_roundw
          case rel => exact ⟨j + 1, hlt, by go_num, by rw [hU.out]; simpa using ho, Lib.hid ⟨HI.out.1.tr HF5.out, HI.out.2.fr0 HF5.out⟩⟩
          case measure => simp [intOf]; omega
      · have t1 : decide (j < lq q) = false := by simpa using hlt
        have hjj : j = lq q := by omega
        have HJ := Lib.hid hjj
        clear hjj hlt
        go_wp2_with fail
        go_ret2
        exact ⟨by rw [HM.out, HJ.out]; rfl, HI.out.1⟩
end Go.Proofs.YtnjfefbeemicaaaDoor
