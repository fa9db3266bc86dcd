/-
  The law RearmEndless, walked.
-/
import Derived.Test.YtnjfefbeemicaaaDoorPers
import Derived.Test.YtnjfefbeemicaaaDoorLatB
namespace Go.Proofs.YtnjfefbeemicaaaDoor
open Go.RowKit Go.Shelf

theorem neq_same (per : Nat) (w : World) : (binOp .neq 28 (.agg #[.int .i64 1, .int .u64 per, .int .i64 0, .int .u64 0, .bool false, .int .u64 0, .bool false, .int .u64 0, .bool false, .int .u64 0, .bool false, .int .u64 0, .bool false]) (.agg #[.int .i64 1, .int .u64 per, .int .i64 0, .int .u64 0, .bool false, .int .u64 0, .bool false, .int .u64 0, .bool false, .int .u64 0, .bool false, .int .u64 0, .bool false])).run Tryd.prog w = .ok (.bool false) w := by
  have := neq_plan w ⟨1, per, 0, Sp.zero⟩ ⟨1, per, 0, Sp.zero⟩
  rw [(Pl.eqB_iff _ _).2 rfl] at this
  exact this
set_option maxRecDepth 100000 in
set_option maxHeartbeats 4000000 in
theorem endless_any (p : Pl) (a : Nat) (n : Int) (w : World) (ha : a < 18446744073709551616) (hp : p.period < 18446744073709551616) (hT : TB w) :
    Calls Tryd.prog 7 #[.agg p.cs.toArray, .int .u64 a, .int .i64 n] w fun e w' => WorksC w e w' := by
  have f0 : Fr (fun _ => False) w (w.alloc (.cells p.cs.toArray 28)) := (Fr.refl _ w).alloc _
  have kp := Bk.new w p.cs 28
  have HT := Lib.hid (hT.fr f0)
  have HP := Lib.hid (And.intro f0 kp)
  have HB := Lib.hid (And.intro ha hp)
  clear f0 kp hT ha hp
  go_enter Tryd.func7, Tryd.ntmps7
  go_wp2_with fail
  refine (works_any _ HT.out).mono ?_
  rintro e w1 ⟨rfl, f1⟩
  have kp2 := HP.out.2.fr0 f1
  have a1 := kp2.cell 1 rfl
  have HF1 := Lib.hid (And.intro (HP.out.1.tr f1) (And.intro (HT.out.fr f1) kp2))
  have hlt := kp2.lt
  clear kp2 f1
  by_cases hok : n < 0 ∨ 40 < n ∨ p.period = 0 ∨ 1000000 < p.period ∨ 1000000 < a
  · go_wp2_with fail
    all_goals first
      | (exfalso; omega)
      | (go_ret; exact ⟨rfl, HF1.out.1⟩)
  · have t0 : ¬ n < 0 := by omega
    have t1 : ¬ 40 < n := by omega
    have t2 : ¬ p.period = 0 := by omega
    have t3 : ¬ 1000000 < p.period := by omega
    have t4 : ¬ 1000000 < a := by omega
    obtain ⟨N, rfl⟩ := Int.eq_ofNat_of_zero_le (by omega : 0 ≤ n)
    have s0 : decide ((N : Int) < 0) = false := by simp
    have s1 : decide (40 < (N : Int)) = false := by simp; omega
    have s2 : ((p.period : Int) == 0) = false := by simp; omega
    have s3 : decide (1000000 < (p.period : Int)) = false := by simp; omega
    have s4 : decide (1000000 < (a : Int)) = false := by simp; omega
    clear hok
    have fq := HF1.out.1.alloc (.cells #[.int .i64 1, .int .u64 p.period, .int .i64 0, .int .u64 0, .bool false, .int .u64 0, .bool false, .int .u64 0, .bool false, .int .u64 0, .bool false, .int .u64 0, .bool false] 28)
    have kq := Bk.new w1 [.int .i64 1, .int .u64 p.period, .int .i64 0, .int .u64 0, .bool false, .int .u64 0, .bool false, .int .u64 0, .bool false, .int .u64 0, .bool false, .int .u64 0, .bool false] 28
    have HQ : Hid (Fr (fun _ => False) w (w1.alloc (.cells #[.int .i64 1, .int .u64 p.period, .int .i64 0, .int .u64 0, .bool false, .int .u64 0, .bool false, .int .u64 0, .bool false, .int .u64 0, .bool false, .int .u64 0, .bool false] 28)) ∧ TB (w1.alloc (.cells #[.int .i64 1, .int .u64 p.period, .int .i64 0, .int .u64 0, .bool false, .int .u64 0, .bool false, .int .u64 0, .bool false, .int .u64 0, .bool false, .int .u64 0, .bool false] 28)) ∧ Bk (w1.alloc (.cells #[.int .i64 1, .int .u64 p.period, .int .i64 0, .int .u64 0, .bool false, .int .u64 0, .bool false, .int .u64 0, .bool false, .int .u64 0, .bool false, .int .u64 0, .bool false] 28)) w.heap.size 28 p.cs ∧ Bk (w1.alloc (.cells #[.int .i64 1, .int .u64 p.period, .int .i64 0, .int .u64 0, .bool false, .int .u64 0, .bool false, .int .u64 0, .bool false, .int .u64 0, .bool false, .int .u64 0, .bool false] 28)) w1.heap.size 28 [.int .i64 1, .int .u64 p.period, .int .i64 0, .int .u64 0, .bool false, .int .u64 0, .bool false, .int .u64 0, .bool false, .int .u64 0, .bool false, .int .u64 0, .bool false]) := Lib.hid ⟨fq, HF1.out.2.1.fr ((Fr.refl _ w1).alloc _), HF1.out.2.2.al _, kq⟩
    have HR := Lib.hid (fun t w h hT => rag_endless p.period t w t2 (by omega) h hT)
    have hs := neq_same p.period
    clear fq kq
    go_wp2_with fail
    go_loopw [9, 10] (fun tv iv wr => ∃ k : Nat, k ≤ N ∧ iv = .int .i64 k ∧ tv = .int .u64 ((a + k * p.period : Nat) : Int) ∧ Hid (Fr (fun _ => False) w wr ∧ TB wr ∧ Bk wr w.heap.size 28 p.cs ∧ Bk wr w1.heap.size 28 [.int .i64 1, .int .u64 p.period, .int .i64 0, .int .u64 0, .bool false, .int .u64 0, .bool false, .int .u64 0, .bool false, .int .u64 0, .bool false, .int .u64 0, .bool false])) (fun _ iv _ => 41 - (intOf iv).toNat)
    case atStart => exact ⟨0, by omega, rfl, by simp, HQ⟩
    case round =>
      obtain ⟨k, hk, rfl, rfl, HI⟩ := hrel
      have hb : k * p.period ≤ 40 * 1000000 := Nat.mul_le_mul (by omega) (by omega)
      by_cases hlt : k < N
      · have t5 : decide (k < N) = true := by simpa using hlt
        have hs1 : (k + 1) * p.period = k * p.period + p.period := by rw [Nat.add_mul, Nat.one_mul]
        generalize k * p.period = K at *
        have HC := Lib.hid (HR.out (a + K) wr (by omega) HI.out.2.1)
        have b0 := HI.out.2.2.2.cell 0 rfl
        have b1 := HI.out.2.2.2.cell 1 rfl
        have b2 := HI.out.2.2.2.cell 2 rfl
        have b3 := HI.out.2.2.2.cell 3 rfl
        have b4 := HI.out.2.2.2.cell 4 rfl
        have b5 := HI.out.2.2.2.cell 5 rfl
        have b6 := HI.out.2.2.2.cell 6 rfl
        have b7 := HI.out.2.2.2.cell 7 rfl
        have b8 := HI.out.2.2.2.cell 8 rfl
        have b9 := HI.out.2.2.2.cell 9 rfl
        have b10 := HI.out.2.2.2.cell 10 rfl
        have b11 := HI.out.2.2.2.cell 11 rfl
        have b12 := HI.out.2.2.2.cell 12 rfl
        go_wp2_with fail
        refine HC.out.mono ?_
        rintro e w2 ⟨rfl, f2⟩
        have HI2 := Lib.hid (And.intro (HI.out.1.tr f2) (And.intro (HI.out.2.1.fr f2) (And.intro (HI.out.2.2.1.fr0 f2) (HI.out.2.2.2.fr0 f2))))
        clear f2 b0 b1 b2 b3 b4 b5 b6 b7 b8 b9 b10 b11 b12
        have a1 := HI2.out.2.2.1.cell 1 rfl
        have hl1 := HI2.out.2.2.1.lt
        have hl2 := HI2.out.2.2.2.lt
        have e3 : IntKind.u64.wrap ((a : Int) + (K : Int) + (p.period : Int)) = (a : Int) + (K : Int) + (p.period : Int) := by rw [IntKind.wrap_u64]; omega
        have b0 := HI2.out.2.2.2.cell 0 rfl
        have b1 := HI2.out.2.2.2.cell 1 rfl
        have b2 := HI2.out.2.2.2.cell 2 rfl
        have b3 := HI2.out.2.2.2.cell 3 rfl
        have b4 := HI2.out.2.2.2.cell 4 rfl
        have b5 := HI2.out.2.2.2.cell 5 rfl
        have b6 := HI2.out.2.2.2.cell 6 rfl
        have b7 := HI2.out.2.2.2.cell 7 rfl
        have b8 := HI2.out.2.2.2.cell 8 rfl
        have b9 := HI2.out.2.2.2.cell 9 rfl
        have b10 := HI2.out.2.2.2.cell 10 rfl
        have b11 := HI2.out.2.2.2.cell 11 rfl
        have b12 := HI2.out.2.2.2.cell 12 rfl
        go_wp2_with fail
        go_roundw
        case rel => exact ⟨k + 1, by omega, by go_num, by rw [hs1]; simp [Int.add_assoc], Lib.hid ⟨HI2.out.1.alloc _, HI2.out.2.1.fr ((Fr.refl _ w2).alloc _), HI2.out.2.2.1.al _, HI2.out.2.2.2.al _⟩⟩
        case measure => simp [intOf]; omega
      · have t5 : decide (k < N) = false := by simpa using hlt
        obtain rfl : k = N := by omega
        have a1 := HI.out.2.2.1.cell 1 rfl
        have e3 : IntKind.u64.wrap (k : Int) = (k : Int) := by rw [IntKind.wrap_u64]; omega
        have hb2 : (k : Int) * (p.period : Int) = ((k * p.period : Nat) : Int) := by simp
        have e4 : IntKind.u64.wrap ((k : Int) * (p.period : Int)) = (k : Int) * (p.period : Int) := by rw [hb2, IntKind.wrap_u64]; omega
        have e5 : IntKind.u64.wrap ((a : Int) + (k : Int) * (p.period : Int)) = (a : Int) + (k : Int) * (p.period : Int) := by rw [hb2, IntKind.wrap_u64]; omega
        clear hb2 hb
        go_wp2_with fail
        go_ret
        exact ⟨rfl, HI.out.1⟩
end Go.Proofs.YtnjfefbeemicaaaDoor
