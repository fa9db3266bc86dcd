/-
  The law RearmLater, walked.
-/
import Derived.Test.YtnjfefbeemicaaaDoorLatA
namespace Go.Proofs.YtnjfefbeemicaaaDoor
open Go.RowKit Go.Shelf

theorem eq_zero (q : Pl) (h : q = Pl.zero) (w : World) : (binOp .eql 28 (.agg q.cs.toArray) (.agg #[.int .i64 0, .int .u64 0, .int .i64 0, .int .u64 0, .bool false, .int .u64 0, .bool false, .int .u64 0, .bool false, .int .u64 0, .bool false, .int .u64 0, .bool false])).run Tryd.prog w = .ok (.bool true) w := by
  have := eql_plan w q Pl.zero
  rw [(Pl.eqB_iff _ _).2 h] at this
  exact this
theorem chk_zero (q : Pl) (h : q.chk = 0) (w : World) : Calls Tryd.prog 16 #[.agg q.cs.toArray] w fun e w' => e = .returned (.int .i64 0) ∧ Fr (fun _ => False) w w' := by
  have C := rchk_any q w
  unfold RChk at C
  rw [h] at C
  exact C
set_option maxRecDepth 100000 in
set_option maxHeartbeats 4000000 in
theorem later_any (p : Pl) (a now : Nat) (w : World) (ha : a < 18446744073709551616) (hn : now < 18446744073709551616) (hp : p.period < 18446744073709551616) (hl : p.left ≤ 9223372036854775807) (hx : p.x.Wf) (hT : TB w) :
    Calls Tryd.prog 5 #[.agg p.cs.toArray, .int .u64 a, .int .u64 now] w fun e w' => WorksC w e w' := by
  have f0 : Fr (fun _ => False) w (w.alloc (.cells p.cs.toArray 28)) := (Fr.refl _ w).alloc _
  have kp := Bk.new w p.cs 28
  have HT := Lib.hid (hT.fr f0)
  have HP := Lib.hid (And.intro f0 kp)
  have HR := Lib.hid (fun w hT => raga_any p a now w ha hn hp hl hx hT)
  have HB := Lib.hid (And.intro ha (And.intro hn hp))
  clear f0 kp hT ha hn hp hl hx
  go_enter Tryd.func5, Tryd.ntmps5
  go_wp2_with fail
  refine (works_any _ HT.out).mono ?_
  rintro e w1 ⟨rfl, f1⟩
  have kp2 := HP.out.2.fr0 f1
  have a0 := kp2.cell 0 rfl
  have a1 := kp2.cell 1 rfl
  have a2 := kp2.cell 2 rfl
  have a3 := kp2.cell 3 rfl
  have a4 := kp2.cell 4 rfl
  have a5 := kp2.cell 5 rfl
  have a6 := kp2.cell 6 rfl
  have a7 := kp2.cell 7 rfl
  have a8 := kp2.cell 8 rfl
  have a9 := kp2.cell 9 rfl
  have a10 := kp2.cell 10 rfl
  have a11 := kp2.cell 11 rfl
  have a12 := kp2.cell 12 rfl
  have HF1 := Lib.hid (And.intro (HP.out.1.tr f1) (And.intro (HT.out.fr f1) kp2))
  clear kp2 f1
  go_wp2_with fail
  refine (HR.out _ HF1.out.2.1).mono ?_
  rintro e w2 ⟨t, q, m, k, hA, rfl, f2⟩
  have HF2 := Lib.hid (And.intro (HF1.out.1.tr f2) (HF1.out.2.2.fr0 f2))
  have hlt := HF2.out.2.lt
  have c0 := HF2.out.2.cell 0 rfl
  have c1 := HF2.out.2.cell 1 rfl
  rcases later_cases hA HB.out.1 HB.out.2.1 HB.out.2.2 with ⟨g1, rfl, g3, rfl⟩ | ⟨rfl, g2, g3, g4, T, M, rfl, rfl, g5, g6⟩
  · have t0 : (k != 0) = true := by simpa using g1
    have ez := eq_zero q g3
    clear g1 g3 hA f2
    go_wp2_with fail
    go_ret
    exact ⟨rfl, HF2.out.1.alloc _⟩
  · have HC := Lib.hid (chk_zero q g2)
    have t1 : (q.kind != p.kind) = false := by simpa using g3
    have t2 : ((q.period : Int) != (p.period : Int)) = false := by simp; omega
    have HF3 := Lib.hid f2
    clear g2 g3 g4 hA f2
    rcases g6 with ⟨g7, g8⟩ | ⟨g7, g8, g9⟩
    · have t3 : ((T : Int) == 18446744073709551615) = true := by rw [g7]; rfl
      have t4 : (p.kind == 1) = true := by simpa using g8
      clear g5 g7 g8
      go_wp2_with fail
      refine (HC.out _).mono ?_
      rintro e w3 ⟨rfl, f3⟩
      have HF4 := Lib.hid ((HF2.out.1.alloc _).tr f3)
      have kq := (Bk.new w2 q.cs 28).fr0 f3
      have kp3 := (HF2.out.2.al _).fr0 f3
      have b0 := kq.cell 0 rfl
      have b1 := kq.cell 1 rfl
      have d0 := kp3.cell 0 rfl
      have d1 := kp3.cell 1 rfl
      clear kq kp3 f3
      go_wp2_with fail
      go_ret
      exact ⟨rfl, HF4.out⟩
    · have t3 : ((T : Int) == 18446744073709551615) = false := by
        have : (T : Int) ≠ 18446744073709551615 := by unfold never at g7; omega
        simpa using this
      have t4 : decide (now < T) = true := by simpa using g8
      rcases g9 with g9 | ⟨g9, h0, h1, h2, h3⟩
      · have t5 : (p.kind != 1) = true := by simpa using g9
        clear g5 g7 g8 g9
        go_wp2_with fail
        refine (HC.out _).mono ?_
        rintro e w3 ⟨rfl, f3⟩
        have HF4 := Lib.hid ((HF2.out.1.alloc _).tr f3)
        have kq := (Bk.new w2 q.cs 28).fr0 f3
        have kp3 := (HF2.out.2.al _).fr0 f3
        have b0 := kq.cell 0 rfl
        have b1 := kq.cell 1 rfl
        have d0 := kp3.cell 0 rfl
        have d1 := kp3.cell 1 rfl
        clear kq kp3 f3
        go_wp2_with fail
        go_ret
        exact ⟨rfl, HF4.out⟩
      · have t5 : (p.kind != 1) = false := by simpa using g9
        have t6 : decide (a < T) = true := by simpa using h1
        have e1 : IntKind.u64.wrap ((T : Int) - (a : Int)) = ((T - a : Nat) : Int) := by
          have := HB.out.1
          unfold never at g5
          rw [IntKind.wrap_u64]; omega
        have hM : M + 1 ≤ T - a := by rw [← h3]; exact Nat.div_le_self _ _
        have e2 : IntKind.u64.wrap ((M : Int) + 1) = ((M + 1 : Nat) : Int) := by
          unfold never at g5
          rw [IntKind.wrap_u64]; omega
        have t7 : ((((T - a : Nat) : Int) % (p.period : Int)) == 0) = true := by
          have : (((T - a : Nat) : Int) % (p.period : Int)) = (((T - a) % p.period : Nat) : Int) := by simp
          rw [this, h2]; rfl
        have e3 : IntKind.u64.wrap (((T - a : Nat) : Int) / (p.period : Int)) = ((M + 1 : Nat) : Int) := by
          have : (((T - a : Nat) : Int) / (p.period : Int)) = (((T - a) / p.period : Nat) : Int) := by simp
          unfold never at g5
          rw [this, h3, IntKind.wrap_u64]; omega
        have hpp : ¬ (p.period = 0) := h0
        have hpi : ¬ ((p.period : Int) = 0) := by omega
        clear g5 g7 g8 g9 h1 h2 h3 hM
        generalize T - a = D at *
        generalize M + 1 = N at *
        go_wp2_with fail
        refine (HC.out _).mono ?_
        rintro e w3 ⟨rfl, f3⟩
        have HF4 := Lib.hid ((HF2.out.1.alloc _).tr f3)
        have kq := (Bk.new w2 q.cs 28).fr0 f3
        have kp3 := (HF2.out.2.al _).fr0 f3
        have b0 := kq.cell 0 rfl
        have b1 := kq.cell 1 rfl
        have d0 := kp3.cell 0 rfl
        have d1 := kp3.cell 1 rfl
        clear kq kp3 f3
        go_wp2_with fail
        go_ret
        exact ⟨rfl, HF4.out⟩
end Go.Proofs.YtnjfefbeemicaaaDoor
