/-
  The law RearmAgain, walked: program and reference give one answer.
-/
import Derived.Test.YtnjfefbeemicaaaDoorRefI
import Derived.Test.YtnjfefbeemicaaaDoorWorksB
namespace Go.Proofs.YtnjfefbeemicaaaDoor
open Go.RowKit Go.Shelf

theorem AgaR.one {p : Pl} {a now : Nat} {t m k t' m' k' : Int} {q q' : Pl} (h : AgaR p a now t q m k) (h' : AgaR p a now t' q' m' k') : t = t' ∧ q = q' ∧ m = m' ∧ k = k' := by
  rcases h with ⟨h1, rfl, rfl, rfl, rfl⟩ | ⟨h1, h2, rfl, rfl, rfl, rfl⟩ | ⟨h1, h2, h3, h4, rfl, rfl, rfl, rfl⟩ | ⟨h1, h2, r, hr, rfl, rfl, rfl⟩
  · rcases h' with ⟨g1, rfl, rfl, rfl, rfl⟩ | ⟨g1, _⟩ | ⟨g1, _⟩ | ⟨g1, _⟩
    · exact ⟨rfl, rfl, rfl, rfl⟩
    · exact absurd g1 h1
    · exact absurd g1 h1
    · exact absurd g1 h1
  · rcases h' with ⟨g1, _⟩ | ⟨g1, g2, rfl, rfl, rfl, rfl⟩ | ⟨g1, g2, g3, g4, _⟩ | ⟨g1, g2, _⟩
    · exact absurd h1 g1
    · exact ⟨rfl, rfl, rfl, rfl⟩
    · rcases h2 with h2 | ⟨_, h2 | h2⟩
      · omega
      · exact absurd h2 g3
      · exact absurd h2 g4
    · rcases h2 with h2 | ⟨h2, _⟩ <;> omega
  · rcases h' with ⟨g1, _⟩ | ⟨g1, g2, _⟩ | ⟨g1, g2, g3, g4, rfl, rfl, rfl, rfl⟩ | ⟨g1, g2, _⟩
    · exact absurd h1 g1
    · rcases g2 with g2 | ⟨_, g2 | g2⟩
      · omega
      · exact absurd g2 h3
      · exact absurd g2 h4
    · exact ⟨rfl, rfl, rfl, rfl⟩
    · omega
  · rcases h' with ⟨g1, _⟩ | ⟨g1, g2, _⟩ | ⟨g1, g2, _⟩ | ⟨g1, g2, r', hr', rfl, rfl, rfl⟩
    · exact absurd h1 g1
    · rcases g2 with g2 | ⟨g2, _⟩ <;> omega
    · omega
    · obtain ⟨rfl, rfl⟩ := hr.one hr'
      exact ⟨rfl, rfl, rfl, rfl⟩
theorem eql_self (q : Pl) (w : World) : (binOp .eql 28 (.agg q.cs.toArray) (.agg q.cs.toArray)).run Tryd.prog w = .ok (.bool true) w := by
  have := eql_plan w q q
  rw [(Pl.eqB_iff _ _).2 rfl] at this
  exact this
set_option maxRecDepth 100000 in
set_option maxHeartbeats 4000000 in
theorem again_any (p : Pl) (a now : Nat) (w : World) (ha : a < 18446744073709551616) (hn : now < 18446744073709551616) (hp : p.period < 18446744073709551616) (hl : p.left ≤ 9223372036854775807) (hx : p.x.Wf) (hT : TB w) :
    Calls Tryd.prog 4 #[.agg p.cs.toArray, .int .u64 a, .int .u64 now] w fun e w' => WorksC w e w' := by
  have f0 : Fr (fun _ => False) w (w.alloc (.cells p.cs.toArray 28)) := (Fr.refl _ w).alloc _
  have kp := Bk.new w p.cs 28
  have HT := Lib.hid (hT.fr f0)
  have HP := Lib.hid (And.intro f0 kp)
  have HR := Lib.hid (fun w hT => raga_any p a now w ha hn hp hl hx hT)
  have HS := Lib.hid (fun w => rrag_any p a now w ha hn hp hl hx)
  clear f0 kp hT ha hn hp hl hx
  go_enter Tryd.func4, Tryd.ntmps4
  go_wp2_with fail
  refine (works_any _ HT.out).mono ?_
  rintro e w1 ⟨rfl, f1⟩
  have kp1 := HP.out.2.fr0 f1
  have a0 := kp1.cell 0 rfl
  have a1 := kp1.cell 1 rfl
  have a2 := kp1.cell 2 rfl
  have a3 := kp1.cell 3 rfl
  have a4 := kp1.cell 4 rfl
  have a5 := kp1.cell 5 rfl
  have a6 := kp1.cell 6 rfl
  have a7 := kp1.cell 7 rfl
  have a8 := kp1.cell 8 rfl
  have a9 := kp1.cell 9 rfl
  have a10 := kp1.cell 10 rfl
  have a11 := kp1.cell 11 rfl
  have a12 := kp1.cell 12 rfl
  have HF1 := Lib.hid (And.intro (HP.out.1.tr f1) (And.intro (HT.out.fr f1) kp1))
  clear kp1 f1
  go_wp2_with fail
  refine (HR.out _ HF1.out.2.1).mono ?_
  rintro e w2 ⟨t, q, m, k, hA, rfl, f2⟩
  have HA := Lib.hid hA
  have kp2 := HF1.out.2.2.fr0 f2
  have hlt := kp2.lt
  have HF2 := Lib.hid (And.intro (HF1.out.1.tr f2) kp2)
  clear f2 hA a0 a1 a2 a3 a4 a5 a6 a7 a8 a9 a10 a11 a12
  have a0 := kp2.cell 0 rfl
  have a1 := kp2.cell 1 rfl
  have a2 := kp2.cell 2 rfl
  have a3 := kp2.cell 3 rfl
  have a4 := kp2.cell 4 rfl
  have a5 := kp2.cell 5 rfl
  have a6 := kp2.cell 6 rfl
  have a7 := kp2.cell 7 rfl
  have a8 := kp2.cell 8 rfl
  have a9 := kp2.cell 9 rfl
  have a10 := kp2.cell 10 rfl
  have a11 := kp2.cell 11 rfl
  have a12 := kp2.cell 12 rfl
  clear kp2
  go_wp2_with fail
  refine (HS.out _).mono ?_
  rintro e w3 ⟨t', q', m', k', hB, rfl, f3⟩
  obtain ⟨rfl, rfl, rfl, rfl⟩ := HA.out.one hB
  have kq := (Bk.new w2 q.cs 28).fr0 f3
  have HF3 := Lib.hid ((HF2.out.1.alloc _).tr f3)
  have eq1 := eql_self q
  have hlt2 := kq.lt
  clear f3 hB a0 a1 a2 a3 a4 a5 a6 a7 a8 a9 a10 a11 a12
  have b0 := kq.cell 0 rfl
  have b1 := kq.cell 1 rfl
  have b2 := kq.cell 2 rfl
  have b3 := kq.cell 3 rfl
  have b4 := kq.cell 4 rfl
  have b5 := kq.cell 5 rfl
  have b6 := kq.cell 6 rfl
  have b7 := kq.cell 7 rfl
  have b8 := kq.cell 8 rfl
  have b9 := kq.cell 9 rfl
  have b10 := kq.cell 10 rfl
  have b11 := kq.cell 11 rfl
  have b12 := kq.cell 12 rfl
  clear kq
  go_wp2_with fail
  go_ret
  exact ⟨rfl, HF3.out.alloc _⟩
end Go.Proofs.YtnjfefbeemicaaaDoor
