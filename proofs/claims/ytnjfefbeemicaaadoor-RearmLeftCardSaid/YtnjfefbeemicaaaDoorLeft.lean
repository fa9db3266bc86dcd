/-
  The law RearmLeft, walked.
-/
import Derived.Test.YtnjfefbeemicaaaDoorPers
import Derived.Test.YtnjfefbeemicaaaDoorLatB
import Derived.Deep.RegionHeld3
import Derived.BigQuiet
namespace Go.Proofs.YtnjfefbeemicaaaDoor
open Go.RowKit Go.Shelf

abbrev pcs (per : Nat) (l : Int) : List Value := [.int .i64 1, .int .u64 per, .int .i64 l, .int .u64 0, .bool false, .int .u64 0, .bool false, .int .u64 0, .bool false, .int .u64 0, .bool false, .int .u64 0, .bool false]
/-- The steps that came in. -/
def Steps (w : World) (b o : Nat) (L : List Nat) : Prop := ∀ (j x : Nat), L[j]? = some x → w.cell? ⟨b, o + j, none⟩ = some (.int .u64 x)
theorem Steps.fr {w w' : World} {b o : Nat} {L : List Nat} (h : Steps w b o L) (f : Fr (fun _ => False) w w') : Steps w' b o L := by
  intro j x hx
  have h1 := h j x hx
  have h0 : b < w.heap.size := World.block_lt_of_cell? w _ h1
  exact (World.cell?_of_block (f.block b h0 id)).trans h1
/-- What the round's drawn region reads of the world. -/
abbrev LS (wr : World) (sz per : Nat) (l : Int) (b o k x : Nat) (v : World) : Prop := v.cell? ⟨sz, 0, none⟩ = some (.int .i64 1) ∧ v.cell? ⟨sz, 1, none⟩ = some (.int .u64 per) ∧ v.cell? ⟨sz, 2, none⟩ = some (.int .i64 l) ∧ v.cell? ⟨sz, 3, none⟩ = some (.int .u64 0) ∧ v.cell? ⟨sz, 4, none⟩ = some (.bool false) ∧ v.cell? ⟨sz, 5, none⟩ = some (.int .u64 0) ∧ v.cell? ⟨sz, 6, none⟩ = some (.bool false) ∧ v.cell? ⟨sz, 7, none⟩ = some (.int .u64 0) ∧ v.cell? ⟨sz, 8, none⟩ = some (.bool false) ∧ v.cell? ⟨sz, 9, none⟩ = some (.int .u64 0) ∧ v.cell? ⟨sz, 10, none⟩ = some (.bool false) ∧ v.cell? ⟨sz, 11, none⟩ = some (.int .u64 0) ∧ v.cell? ⟨sz, 12, none⟩ = some (.bool false) ∧ v.cell? ⟨b, o + k, none⟩ = some (.int .u64 x) ∧ Fr (fun _ => False) wr v
theorem LS.mk {wr v : World} {sz per : Nat} {l : Int} {b o k x : Nat} {L : List Nat} (hk : Bk wr sz 28 (pcs per l)) (hs : Steps wr b o L) (hx : L[k]? = some x) (f : Fr (fun _ => False) wr v) : LS wr sz per l b o k x v := by
  have h := hk.fr0 f
  exact ⟨h.cell 0 rfl, h.cell 1 rfl, h.cell 2 rfl, h.cell 3 rfl, h.cell 4 rfl, h.cell 5 rfl, h.cell 6 rfl, h.cell 7 rfl, h.cell 8 rfl, h.cell 9 rfl, h.cell 10 rfl, h.cell 11 rfl, h.cell 12 rfl, (hs.fr f) k x hx, f⟩
theorem LS.fr {wr v : World} {sz per : Nat} {l : Int} {b o k x : Nat} (h : LS wr sz per l b o k x v) : Fr (fun _ => False) wr v := h.2.2.2.2.2.2.2.2.2.2.2.2.2.2
theorem rag_left_at (per t s L : Nat) (l ts l2 : Int) (w : World) (h0 : per ≠ 0) (h1 : per ≤ 1000000) (h2 : t ≤ 1000000000) (h3 : s ≤ 1000000) (h4 : 1 ≤ L) (h5 : L ≤ 40) (hT : TB w) (el : l = ((L + 1 : Nat) : Int)) (es : ts = ((t + s : Nat) : Int)) (e2 : l2 = (L : Int)) :
    Calls Tryd.prog 18 #[.agg (pcs per l).toArray, .int .u64 t, .int .u64 ts] w fun e w' => ∃ T M : Nat, t + s < T ∧ T ≤ t + s + per ∧ e = .returned (.tuple #[.int .u64 (T : Int), .agg (pcs per l2).toArray, .int .u64 (M : Int), .int .i64 0]) ∧ Fr (fun _ => False) w w' := by
  subst el es e2
  exact rag_left per t s L w h0 h1 h2 h3 h4 h5 hT
set_option maxRecDepth 100000 in
set_option maxHeartbeats 4000000 in
theorem left_any (p : Pl) (t0 : Nat) (n : Int) (sa : Option Addr) (sc b o : Nat) (L : List Nat) (w : World) (hp : p.period < 18446744073709551616) (hT : TB w) (hL : Steps w b o L) (ha : 0 < L.length → sa = some ⟨b, o, none⟩) (hu : ∀ x ∈ L, x < 18446744073709551616) :
    Calls Tryd.prog 6 #[.agg p.cs.toArray, .int .u64 t0, .int .i64 n, .slice sa L.length sc] w fun e w' => WorksC w e w' := by
  have f0 : Fr (fun _ => False) w (w.alloc (.cells p.cs.toArray 28)) := (Fr.refl _ w).alloc _
  have kp := Bk.new w p.cs 28
  have HT := Lib.hid (hT.fr f0)
  have HP := Lib.hid (And.intro f0 kp)
  have HL := Lib.hid (hL.fr f0)
  have HU := Lib.hid (And.intro hu ha)
  have H00 := Lib.hid (And.intro hT hL)
  clear f0 kp hT hL hu
  go_enter Tryd.func6, Tryd.ntmps6
  go_wp2_with fail
  refine (works_any _ HT.out).mono ?_
  rintro e w1 ⟨rfl, f1⟩
  have kp2 := HP.out.2.fr0 f1
  have a0 := kp2.cell 0 rfl
  have a1 := kp2.cell 1 rfl
  have HF1 := Lib.hid (And.intro (HP.out.1.tr f1) (And.intro (HT.out.fr f1) (And.intro (HL.out.fr f1) kp2)))
  have hlt := kp2.lt
  clear kp2 f1
  by_cases hok : n < 1 ∨ 40 < n ∨ (L.length : Int) < n ∨ p.kind ≠ 1 ∨ p.period = 0 ∨ 1000000 < p.period ∨ 1000000 < t0
  · go_wp2_with fail
    all_goals first
      | (exfalso; omega)
      | (go_ret; exact ⟨rfl, HF1.out.1⟩)
  · obtain ⟨N, rfl⟩ := Int.eq_ofNat_of_zero_le (by omega : 0 ≤ n)
    obtain rfl := ha (by omega)
    have s0 : decide ((N : Int) < 1) = false := by simp; omega
    have s1 : decide (40 < (N : Int)) = false := by simp; omega
    have s5 : decide ((L.length : Int) < (N : Int)) = false := by simp; omega
    have s7 : decide (L.length < N) = false := by simp; omega
    have s6 : (p.kind != 1) = false := by simp; omega
    have s2 : ((p.period : Int) == 0) = false := by simp; omega
    have s3 : decide (1000000 < (p.period : Int)) = false := by simp; omega
    have s4 : decide (1000000 < (t0 : Int)) = false := by simp; omega
    have hk1 : p.kind = 1 := by omega
    have t2 : ¬ p.period = 0 := by omega
    have t3 : ¬ 1000000 < p.period := by omega
    have t4 : ¬ 1000000 < t0 := by omega
    have n0 : 1 ≤ N := by omega
    have n1 : N ≤ 40 := by omega
    have n2 : N ≤ L.length := by omega
    clear hok ha
    have fq := HF1.out.1.alloc (.cells #[.int .i64 1, .int .u64 p.period, .int .i64 (N : Int), .int .u64 0, .bool false, .int .u64 0, .bool false, .int .u64 0, .bool false, .int .u64 0, .bool false, .int .u64 0, .bool false] 28)
    have kq := Bk.new w1 [.int .i64 1, .int .u64 p.period, .int .i64 (N : Int), .int .u64 0, .bool false, .int .u64 0, .bool false, .int .u64 0, .bool false, .int .u64 0, .bool false, .int .u64 0, .bool false] 28
    have HQ : Hid (Fr (fun _ => False) w (w1.alloc (.cells #[.int .i64 1, .int .u64 p.period, .int .i64 (N : Int), .int .u64 0, .bool false, .int .u64 0, .bool false, .int .u64 0, .bool false, .int .u64 0, .bool false, .int .u64 0, .bool false] 28)) ∧ TB (w1.alloc (.cells #[.int .i64 1, .int .u64 p.period, .int .i64 (N : Int), .int .u64 0, .bool false, .int .u64 0, .bool false, .int .u64 0, .bool false, .int .u64 0, .bool false, .int .u64 0, .bool false] 28)) ∧ Steps (w1.alloc (.cells #[.int .i64 1, .int .u64 p.period, .int .i64 (N : Int), .int .u64 0, .bool false, .int .u64 0, .bool false, .int .u64 0, .bool false, .int .u64 0, .bool false, .int .u64 0, .bool false] 28)) b o L ∧ Bk (w1.alloc (.cells #[.int .i64 1, .int .u64 p.period, .int .i64 (N : Int), .int .u64 0, .bool false, .int .u64 0, .bool false, .int .u64 0, .bool false, .int .u64 0, .bool false, .int .u64 0, .bool false] 28)) w.heap.size 28 p.cs ∧ Bk (w1.alloc (.cells #[.int .i64 1, .int .u64 p.period, .int .i64 (N : Int), .int .u64 0, .bool false, .int .u64 0, .bool false, .int .u64 0, .bool false, .int .u64 0, .bool false, .int .u64 0, .bool false] 28)) w1.heap.size 28 (pcs p.period (N : Int))) := Lib.hid ⟨fq, HF1.out.2.1.fr ((Fr.refl _ w1).alloc _), HF1.out.2.2.1.fr ((Fr.refl _ w1).alloc _), HF1.out.2.2.2.al _, kq⟩
    clear fq kq
    go_wp2_with fail
    go_loopw [11, 12] (fun tv iv wr => ∃ k t : Nat, 1 ≤ k ∧ k ≤ N ∧ iv = .int .i64 k ∧ tv = .int .u64 t ∧ t ≤ 1000000 + (k - 1) * 2000000 ∧ Hid (Fr (fun _ => False) w wr ∧ TB wr ∧ Steps wr b o L ∧ Bk wr w.heap.size 28 p.cs ∧ Bk wr w1.heap.size 28 (pcs p.period ((N - k + 1 : Nat) : Int)))) (fun _ iv _ => 41 - (intOf iv).toNat)
    case atStart => exact ⟨1, t0, by omega, by omega, rfl, rfl, by omega, by rw [show N - 1 + 1 = N by omega]; exact HQ⟩
    case round =>
      obtain ⟨k, t, hk0, hk, rfl, rfl, hb, HI⟩ := hrel
      by_cases hlt2 : k < N
      · have t5 : decide (k < N) = true := by simpa using hlt2
        obtain ⟨x, hx⟩ : ∃ x, L[k]? = some x := ⟨_, List.getElem?_eq_getElem (by omega)⟩
        have hc := HI.out.2.2.1 k x hx
        have hxu := HU.out.1 x (List.mem_of_getElem? hx)
        have hi0 : (k : Int) < (L.length : Int) := by omega
        by_cases hbig : 1000000 < x
        · have t6 : decide (1000000 < (x : Int)) = true := by simp; omega
          go_wp2_with fail
          go_ret
          exact ⟨rfl, HI.out.1⟩
        · have t6 : decide (1000000 < (x : Int)) = false := by simp; omega
          obtain ⟨l, hl⟩ : ∃ l : Int, l = ((N - k + 1 : Nat) : Int) := ⟨_, rfl⟩
          rw [← hl] at HI
          have HLS := Lib.hid (fun v f => LS.mk (v := v) HI.out.2.2.2.2 HI.out.2.2.1 hx f)
          have g1 : Fr (fun _ => False) wr wr.drew := Fr.drew (Fr.refl _ wr)
          have g2 : Fr (fun _ => False) wr ((wr.alloc (.cells #[.int .i64 0, .int .u64 0, .int .i64 0, .int .u64 0, .bool false, .int .u64 0, .bool false, .int .u64 0, .bool false, .int .u64 0, .bool false, .int .u64 0, .bool false] 28)).drew) := Fr.drew ((Fr.refl _ wr).alloc _)
          have hz := Bk.drew (Bk.new wr [.int .i64 0, .int .u64 0, .int .i64 0, .int .u64 0, .bool false, .int .u64 0, .bool false, .int .u64 0, .bool false, .int .u64 0, .bool false, .int .u64 0, .bool false] 28)
          have HC1 : Hid (Calls Tryd.prog 18 #[.agg (pcs p.period l).toArray, .int .u64 t, .int .u64 ((t : Int) + (x : Int))] wr.drew fun e w' => ∃ T M : Nat, t + x < T ∧ T ≤ t + x + p.period ∧ e = .returned (.tuple #[.int .u64 (T : Int), .agg (pcs p.period ((N : Int) - (k : Int))).toArray, .int .u64 (M : Int), .int .i64 0]) ∧ Fr (fun _ => False) wr w') := Lib.hid ((rag_left_at p.period t x (N - k) l ((t : Int) + (x : Int)) ((N : Int) - (k : Int)) _ t2 (by omega) (by omega) (by omega) (by omega) (by omega) (HI.out.2.1.fr g1) (by rw [hl]) (by omega) (by omega)).mono fun e w' ⟨T, M, h1, h2, h3, h4⟩ => ⟨T, M, h1, h2, h3, g1.tr h4⟩)
          have HC2 : Hid (Calls Tryd.prog 18 #[.agg (pcs p.period l).toArray, .int .u64 t, .int .u64 ((t : Int) + (x : Int))] ((wr.alloc (.cells #[.int .i64 0, .int .u64 0, .int .i64 0, .int .u64 0, .bool false, .int .u64 0, .bool false, .int .u64 0, .bool false, .int .u64 0, .bool false, .int .u64 0, .bool false] 28)).drew) fun e w' => ∃ T M : Nat, t + x < T ∧ T ≤ t + x + p.period ∧ e = .returned (.tuple #[.int .u64 (T : Int), .agg (pcs p.period ((N : Int) - (k : Int))).toArray, .int .u64 (M : Int), .int .i64 0]) ∧ Fr (fun _ => False) wr w' ∧ Bk w' wr.heap.size 28 [.int .i64 0, .int .u64 0, .int .i64 0, .int .u64 0, .bool false, .int .u64 0, .bool false, .int .u64 0, .bool false, .int .u64 0, .bool false, .int .u64 0, .bool false]) := Lib.hid ((rag_left_at p.period t x (N - k) l ((t : Int) + (x : Int)) ((N : Int) - (k : Int)) _ t2 (by omega) (by omega) (by omega) (by omega) (by omega) (HI.out.2.1.fr g2) (by rw [hl]) (by omega) (by omega)).mono fun e w' ⟨T, M, h1, h2, h3, h4⟩ => ⟨T, M, h1, h2, h3, g2.tr h4, hz.fr0 h4⟩)
          have H1 := Lib.hid g1
          have H2 := Lib.hid g2
          have HLL := Lib.hid hl
          clear g1 g2 hz hl
          have e1 : IntKind.u64.wrap ((t : Int) + (x : Int)) = (t : Int) + (x : Int) := by rw [IntKind.wrap_u64]; omega
          have e2 : IntKind.i64.wrap ((N : Int) - (k : Int)) = (N : Int) - (k : Int) := IntWalk.i64_in _ (by omega)
          go_wp2_with fail
          go_region_held3 (fun v => v.cell? ⟨w1.heap.size, 0, none⟩ = some (.int .i64 1) ∧ v.cell? ⟨w1.heap.size, 1, none⟩ = some (.int .u64 p.period) ∧ v.cell? ⟨w1.heap.size, 2, none⟩ = some (.int .i64 l) ∧ v.cell? ⟨w1.heap.size, 3, none⟩ = some (.int .u64 0) ∧ v.cell? ⟨w1.heap.size, 4, none⟩ = some (.bool false) ∧ v.cell? ⟨w1.heap.size, 5, none⟩ = some (.int .u64 0) ∧ v.cell? ⟨w1.heap.size, 6, none⟩ = some (.bool false) ∧ v.cell? ⟨w1.heap.size, 7, none⟩ = some (.int .u64 0) ∧ v.cell? ⟨w1.heap.size, 8, none⟩ = some (.bool false) ∧ v.cell? ⟨w1.heap.size, 9, none⟩ = some (.int .u64 0) ∧ v.cell? ⟨w1.heap.size, 10, none⟩ = some (.bool false) ∧ v.cell? ⟨w1.heap.size, 11, none⟩ = some (.int .u64 0) ∧ v.cell? ⟨w1.heap.size, 12, none⟩ = some (.bool false) ∧ v.cell? ⟨b, o + k, none⟩ = some (.int .u64 x) ∧ Fr (fun _ => False) wr v) (first | with_reducible exact HLS.out _ H1.out | with_reducible exact HLS.out _ H2.out | with_reducible exact HLS.out _ g7 | with_reducible exact HLS.out _ (Fr.alloc g7 _) | exact HLS.out _ (by (repeat' refine Fr.setCell ?_ (.inr (by simp)) _); exact g7)) (first | (go_at_call 18; with_reducible refine HC1.out.mono ?_; rintro e w7 ⟨T, M, hT1, hT2, rfl, g7⟩) | (go_at_call 18; with_reducible refine HC2.out.mono ?_; rintro e w7 ⟨T, M, hT1, hT2, rfl, g7, kz⟩; have c0 := kz.cell 0 rfl; have c1 := kz.cell 1 rfl; have c2 := kz.cell 2 rfl; have c3 := kz.cell 3 rfl; have c4 := kz.cell 4 rfl; have c5 := kz.cell 5 rfl; have c6 := kz.cell 6 rfl; have c7 := kz.cell 7 rfl; have c8 := kz.cell 8 rfl; have c9 := kz.cell 9 rfl; have c10 := kz.cell 10 rfl; have c11 := kz.cell 11 rfl; have c12 := kz.cell 12 rfl; have z0 := kz.free 0; have z1 := kz.free 1; have z2 := kz.free 2; have z3 := kz.free 3; have z4 := kz.free 4; have z5 := kz.free 5; have z6 := kz.free 6; have z7 := kz.free 7; have z8 := kz.free 8; have z9 := kz.free 9; have z10 := kz.free 10; have z11 := kz.free 11; have z12 := kz.free 12))
          · go_wp2_with fail
            refine wp_name (fun W9 hW9 => ?_)
            have kr : Bk W9 w7.heap.size 28 (pcs p.period ((N : Int) - (k : Int))) := by rw [hW9]; exact Bk.new w7 _ _
            have f9 : Fr (fun _ => False) wr W9 := by rw [hW9]; exact Fr.alloc g7 _
            clear hW9
            generalize w7.heap.size = rb at *
            have kp9 := HI.out.2.2.2.1.fr0 f9
            have kq9 := HI.out.2.2.2.2.fr0 f9
            have hc9 := (HI.out.2.2.1.fr f9) k x hx
            have p1 := kp9.cell 1 rfl
            have d0 := kr.cell 0 rfl
            have d1 := kr.cell 1 rfl
            have d2 := kr.cell 2 rfl
            have d3 := kr.cell 3 rfl
            have d4 := kr.cell 4 rfl
            have d5 := kr.cell 5 rfl
            have d6 := kr.cell 6 rfl
            have d7 := kr.cell 7 rfl
            have d8 := kr.cell 8 rfl
            have d9 := kr.cell 9 rfl
            have d10 := kr.cell 10 rfl
            have d11 := kr.cell 11 rfl
            have d12 := kr.cell 12 rfl
            have q0 := kq9.cell 0 rfl
            have q1 := kq9.cell 1 rfl
            have q2 := kq9.cell 2 rfl
            have q3 := kq9.cell 3 rfl
            have q4 := kq9.cell 4 rfl
            have q5 := kq9.cell 5 rfl
            have q6 := kq9.cell 6 rfl
            have q7 := kq9.cell 7 rfl
            have q8 := kq9.cell 8 rfl
            have q9 := kq9.cell 9 rfl
            have q10 := kq9.cell 10 rfl
            have q11 := kq9.cell 11 rfl
            have q12 := kq9.cell 12 rfl
            have y0 := kq9.free 0
            have y1 := kq9.free 1
            have y2 := kq9.free 2
            have y3 := kq9.free 3
            have y4 := kq9.free 4
            have y5 := kq9.free 5
            have y6 := kq9.free 6
            have y7 := kq9.free 7
            have y8 := kq9.free 8
            have y9 := kq9.free 9
            have y10 := kq9.free 10
            have y11 := kq9.free 11
            have y12 := kq9.free 12
            have F9 := Lib.hid (HI.out.1.tr f9)
            have HK9 := Lib.hid (And.intro kp9 kq9)
            have q1 : decide ((T : Int) ≤ (t : Int) + (x : Int)) = false := by simp; omega
            have q2 : decide ((t : Int) + (x : Int) + (p.period : Int) < (T : Int)) = false := by simp; omega
            have e3 : IntKind.u64.wrap ((t : Int) + (x : Int) + (p.period : Int)) = (t : Int) + (x : Int) + (p.period : Int) := by rw [IntKind.wrap_u64]; omega
            clear kr f9 kp9 kq9
            go_quiet (fail)
            go_wp2_with fail
            go_roundw
            case rel =>
              refine ⟨k + 1, T, by omega, by omega, by go_num, by rfl, by omega, ?_⟩
              rw [show ((N - (k + 1) + 1 : Nat) : Int) = (N : Int) - (k : Int) by omega]
              refine Lib.hid ⟨?fr, ?tb, ?st, ?bp, ?bq⟩
              case fr => (repeat' refine Fr.setCell ?_ (.inr (by exact Nat.le_of_lt hlt)) _); exact F9.out.drewN _
              case tb => exact H00.out.1.fr (by (repeat' refine Fr.setCell ?_ (.inr (by exact Nat.le_of_lt hlt)) _); exact F9.out.drewN _)
              case st => exact H00.out.2.fr (by (repeat' refine Fr.setCell ?_ (.inr (by exact Nat.le_of_lt hlt)) _); exact F9.out.drewN _)
              case bp => exact ((((((((((((((HK9.out.1.drewN _).far (by exact Nat.ne_of_lt hlt) _).far (by exact Nat.ne_of_lt hlt) _).far (by exact Nat.ne_of_lt hlt) _).far (by exact Nat.ne_of_lt hlt) _).far (by exact Nat.ne_of_lt hlt) _).far (by exact Nat.ne_of_lt hlt) _).far (by exact Nat.ne_of_lt hlt) _).far (by exact Nat.ne_of_lt hlt) _).far (by exact Nat.ne_of_lt hlt) _).far (by exact Nat.ne_of_lt hlt) _).far (by exact Nat.ne_of_lt hlt) _).far (by exact Nat.ne_of_lt hlt) _).far (by exact Nat.ne_of_lt hlt) _)
              case bq => exact ((((((((((((((HK9.out.2.drewN _).set 0 _).set 1 _).set 2 _).set 3 _).set 4 _).set 5 _).set 6 _).set 7 _).set 8 _).set 9 _).set 10 _).set 11 _).set 12 _)
            case measure => simp [intOf]; omega
            
          · go_wp2_with fail
            refine wp_name (fun W9 hW9 => ?_)
            have kr : Bk W9 wr.heap.size 28 (pcs p.period ((N : Int) - (k : Int))) := by rw [hW9]; exact (((((((((((((kz.set 0 _).set 1 _).set 2 _).set 3 _).set 4 _).set 5 _).set 6 _).set 7 _).set 8 _).set 9 _).set 10 _).set 11 _).set 12 _)
            have f9 : Fr (fun _ => False) wr W9 := by rw [hW9]; (repeat' refine Fr.setCell ?_ (.inr (by simp)) _); exact g7
            clear hW9 kz c0 z0 c1 z1 c2 z2 c3 z3 c4 z4 c5 z5 c6 z6 c7 z7 c8 z8 c9 z9 c10 z10 c11 z11 c12 z12
            have kp9 := HI.out.2.2.2.1.fr0 f9
            have kq9 := HI.out.2.2.2.2.fr0 f9
            have hc9 := (HI.out.2.2.1.fr f9) k x hx
            have p1 := kp9.cell 1 rfl
            have d0 := kr.cell 0 rfl
            have d1 := kr.cell 1 rfl
            have d2 := kr.cell 2 rfl
            have d3 := kr.cell 3 rfl
            have d4 := kr.cell 4 rfl
            have d5 := kr.cell 5 rfl
            have d6 := kr.cell 6 rfl
            have d7 := kr.cell 7 rfl
            have d8 := kr.cell 8 rfl
            have d9 := kr.cell 9 rfl
            have d10 := kr.cell 10 rfl
            have d11 := kr.cell 11 rfl
            have d12 := kr.cell 12 rfl
            have q0 := kq9.cell 0 rfl
            have q1 := kq9.cell 1 rfl
            have q2 := kq9.cell 2 rfl
            have q3 := kq9.cell 3 rfl
            have q4 := kq9.cell 4 rfl
            have q5 := kq9.cell 5 rfl
            have q6 := kq9.cell 6 rfl
            have q7 := kq9.cell 7 rfl
            have q8 := kq9.cell 8 rfl
            have q9 := kq9.cell 9 rfl
            have q10 := kq9.cell 10 rfl
            have q11 := kq9.cell 11 rfl
            have q12 := kq9.cell 12 rfl
            have y0 := kq9.free 0
            have y1 := kq9.free 1
            have y2 := kq9.free 2
            have y3 := kq9.free 3
            have y4 := kq9.free 4
            have y5 := kq9.free 5
            have y6 := kq9.free 6
            have y7 := kq9.free 7
            have y8 := kq9.free 8
            have y9 := kq9.free 9
            have y10 := kq9.free 10
            have y11 := kq9.free 11
            have y12 := kq9.free 12
            have F9 := Lib.hid (HI.out.1.tr f9)
            have HK9 := Lib.hid (And.intro kp9 kq9)
            have q1 : decide ((T : Int) ≤ (t : Int) + (x : Int)) = false := by simp; omega
            have q2 : decide ((t : Int) + (x : Int) + (p.period : Int) < (T : Int)) = false := by simp; omega
            have e3 : IntKind.u64.wrap ((t : Int) + (x : Int) + (p.period : Int)) = (t : Int) + (x : Int) + (p.period : Int) := by rw [IntKind.wrap_u64]; omega
            clear kr f9 kp9 kq9
            go_quiet (fail)
            go_wp2_with fail
            go_roundw
            case rel =>
              refine ⟨k + 1, T, by omega, by omega, by go_num, by rfl, by omega, ?_⟩
              rw [show ((N - (k + 1) + 1 : Nat) : Int) = (N : Int) - (k : Int) by omega]
              refine Lib.hid ⟨?fr, ?tb, ?st, ?bp, ?bq⟩
              case fr => (repeat' refine Fr.setCell ?_ (.inr (by exact Nat.le_of_lt hlt)) _); exact F9.out.drewN _
              case tb => exact H00.out.1.fr (by (repeat' refine Fr.setCell ?_ (.inr (by exact Nat.le_of_lt hlt)) _); exact F9.out.drewN _)
              case st => exact H00.out.2.fr (by (repeat' refine Fr.setCell ?_ (.inr (by exact Nat.le_of_lt hlt)) _); exact F9.out.drewN _)
              case bp => exact ((((((((((((((HK9.out.1.drewN _).far (by exact Nat.ne_of_lt hlt) _).far (by exact Nat.ne_of_lt hlt) _).far (by exact Nat.ne_of_lt hlt) _).far (by exact Nat.ne_of_lt hlt) _).far (by exact Nat.ne_of_lt hlt) _).far (by exact Nat.ne_of_lt hlt) _).far (by exact Nat.ne_of_lt hlt) _).far (by exact Nat.ne_of_lt hlt) _).far (by exact Nat.ne_of_lt hlt) _).far (by exact Nat.ne_of_lt hlt) _).far (by exact Nat.ne_of_lt hlt) _).far (by exact Nat.ne_of_lt hlt) _).far (by exact Nat.ne_of_lt hlt) _)
              case bq => exact ((((((((((((((HK9.out.2.drewN _).set 0 _).set 1 _).set 2 _).set 3 _).set 4 _).set 5 _).set 6 _).set 7 _).set 8 _).set 9 _).set 10 _).set 11 _).set 12 _)
            case measure => simp [intOf]; omega
            
      · have t5 : decide (k < N) = false := by simpa using hlt2
        obtain rfl : k = N := by omega
        have el : ((k - k + 1 : Nat) : Int) = 1 := by omega
        rw [el] at HI
        have d0 := HI.out.2.2.2.2.cell 0 rfl
        have d1 := HI.out.2.2.2.2.cell 1 rfl
        have d2 := HI.out.2.2.2.2.cell 2 rfl
        have d3 := HI.out.2.2.2.2.cell 3 rfl
        have d4 := HI.out.2.2.2.2.cell 4 rfl
        have d5 := HI.out.2.2.2.2.cell 5 rfl
        have d6 := HI.out.2.2.2.2.cell 6 rfl
        have d7 := HI.out.2.2.2.2.cell 7 rfl
        have d8 := HI.out.2.2.2.2.cell 8 rfl
        have d9 := HI.out.2.2.2.2.cell 9 rfl
        have d10 := HI.out.2.2.2.2.cell 10 rfl
        have d11 := HI.out.2.2.2.2.cell 11 rfl
        have d12 := HI.out.2.2.2.2.cell 12 rfl
        have HC := Lib.hid (rag_last p.period t wr t2 HI.out.2.1)
        clear el
        go_wp2_with fail
        refine HC.out.mono ?_
        rintro e w7 ⟨rfl, f7⟩
        have HF7 := Lib.hid (HI.out.1.tr f7)
        clear f7
        go_wp2_with fail
        go_ret
        exact ⟨rfl, HF7.out.alloc _⟩
end Go.Proofs.YtnjfefbeemicaaaDoor
