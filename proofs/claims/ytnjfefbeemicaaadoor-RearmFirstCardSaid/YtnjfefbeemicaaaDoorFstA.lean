/-
  The law RearmFirst, walked: program and reference give one answer.
-/
import Derived.Test.YtnjfefbeemicaaaDoorRefH
import Derived.Test.YtnjfefbeemicaaaDoorWorksB
namespace Go.Proofs.YtnjfefbeemicaaaDoor
open Go.RowKit Go.Shelf

theorem FirC.one {p : Pl} {now d : Nat} {t k t' k' : Int}
    (h : (p.chk ≠ 0 → t = 0 ∧ k = p.chk) ∧ (p.chk = 0 → p.kind ≠ 2 → t = addN now d ∧ k = 0) ∧ (p.chk = 0 → p.kind = 2 → ∃ r, t = r * 60 ∧ NextIs p.x (now / 60 + 1) r k))
    (h' : (p.chk ≠ 0 → t' = 0 ∧ k' = p.chk) ∧ (p.chk = 0 → p.kind ≠ 2 → t' = addN now d ∧ k' = 0) ∧ (p.chk = 0 → p.kind = 2 → ∃ r, t' = r * 60 ∧ NextIs p.x (now / 60 + 1) r k')) : t = t' ∧ k = k' := by
  by_cases hc : p.chk = 0
  · by_cases h2 : p.kind = 2
    · obtain ⟨r, rfl, h3⟩ := h.2.2 hc h2
      obtain ⟨r', rfl, h4⟩ := h'.2.2 hc h2
      obtain ⟨rfl, rfl⟩ := h3.one h4
      exact ⟨rfl, rfl⟩
    · obtain ⟨rfl, rfl⟩ := h.2.1 hc h2
      obtain ⟨rfl, rfl⟩ := h'.2.1 hc h2
      exact ⟨rfl, rfl⟩
  · obtain ⟨rfl, rfl⟩ := h.1 hc
    obtain ⟨rfl, rfl⟩ := h'.1 hc
    exact ⟨rfl, rfl⟩
/-- What the law's last region reads of the world. -/
def Held (w : World) (b : Nat) (p : Pl) (v : World) : Prop := v.cell? ⟨b, 0, none⟩ = some (.int .i64 p.kind) ∧ v.cell? ⟨b, 1, none⟩ = some (.int .u64 p.period) ∧ v.cell? ⟨b, 2, none⟩ = some (.int .i64 p.left) ∧ v.cell? ⟨b, 3, none⟩ = some (.int .u64 p.x.mi) ∧ v.cell? ⟨b, 4, none⟩ = some (.bool p.x.s0) ∧ v.cell? ⟨b, 5, none⟩ = some (.int .u64 p.x.ho) ∧ v.cell? ⟨b, 6, none⟩ = some (.bool p.x.s1) ∧ v.cell? ⟨b, 7, none⟩ = some (.int .u64 p.x.da) ∧ v.cell? ⟨b, 8, none⟩ = some (.bool p.x.s2) ∧ v.cell? ⟨b, 9, none⟩ = some (.int .u64 p.x.mo) ∧ v.cell? ⟨b, 10, none⟩ = some (.bool p.x.s3) ∧ v.cell? ⟨b, 11, none⟩ = some (.int .u64 p.x.we) ∧ v.cell? ⟨b, 12, none⟩ = some (.bool p.x.s4) ∧ Bk v b 28 p.cs ∧ Fr (fun _ => False) w v
theorem Held.mk {w v : World} {b : Nat} {p : Pl} (k : Bk v b 28 p.cs) (f : Fr (fun _ => False) w v) : Held w b p v := ⟨k.cell 0 rfl, k.cell 1 rfl, k.cell 2 rfl, k.cell 3 rfl, k.cell 4 rfl, k.cell 5 rfl, k.cell 6 rfl, k.cell 7 rfl, k.cell 8 rfl, k.cell 9 rfl, k.cell 10 rfl, k.cell 11 rfl, k.cell 12 rfl, k, f⟩
theorem Held.go {w v v' : World} {b : Nat} {p : Pl} (h : Held w b p v) (f : Fr (fun _ => False) v v') : Held w b p v' := by
  obtain ⟨_, _, _, _, _, _, _, _, _, _, _, _, _, k, g⟩ := h
  exact Held.mk (k.fr0 f) (g.tr f)
theorem Held.fr {w v : World} {b : Nat} {p : Pl} (h : Held w b p v) : Fr (fun _ => False) w v := h.2.2.2.2.2.2.2.2.2.2.2.2.2.2
set_option maxRecDepth 100000 in
set_option maxHeartbeats 4000000 in
theorem first_law (p : Pl) (now d : Nat) (w : World) (hn : now < 18446744073709551616) (hd : d < 18446744073709551616) (hx : p.x.Wf) (hT : TB w) :
    Calls Tryd.prog 3 #[.agg p.cs.toArray, .int .u64 now, .int .u64 d] w fun e w' => WorksC w e w' := by
  have f0 : Fr (fun _ => False) w (w.alloc (.cells p.cs.toArray 28)) := (Fr.refl _ w).alloc _
  have kp := Bk.new w p.cs 28
  have HT := Lib.hid (hT.fr f0)
  have HP := Lib.hid (And.intro f0 kp)
  have HR := Lib.hid (fun w hT => rfirst_any p now d w hn hd hx hT)
  have HS := Lib.hid (fun w => rrfirst_any p now d w hn hd hx)
  have HM := Lib.hid (fun w => minute_any now w hn)
  have HM2 := Lib.hid (fun w => rminute_any now w hn)
  have HC1 := Lib.hid (fun w => rchk_any p w)
  have HC2 := Lib.hid (fun w => rrchk_any p w hx)
  clear f0 kp hT hn hd hx
  generalize minR now = mr at *
  generalize minO now = mo at *
  go_enter Tryd.func3, Tryd.ntmps3
  go_wp2_with fail
  refine (works_any _ HT.out).mono ?_
  rintro e w1 ⟨rfl, f1⟩
  have kp1 := HP.out.2.fr0 f1
  have a0 := kp1.cell 0 rfl
  have a1 := kp1.cell 1 rfl
  have a2 := kp1.cell 2 rfl
  have a3 := kp1.cell 3 rfl
  have a4 := kp1.cell 4 rfl
  have a5 := kp1.cell 5 rfl
  have a6 := kp1.cell 6 rfl
  have a7 := kp1.cell 7 rfl
  have a8 := kp1.cell 8 rfl
  have a9 := kp1.cell 9 rfl
  have a10 := kp1.cell 10 rfl
  have a11 := kp1.cell 11 rfl
  have a12 := kp1.cell 12 rfl
  have HF1 := Lib.hid (And.intro (HP.out.1.tr f1) (And.intro (HT.out.fr f1) kp1))
  clear kp1 f1
  go_wp2_with fail
  refine (HR.out _ HF1.out.2.1).mono ?_
  rintro e w2 ⟨t, k, rfl, f2, hA⟩
  have HA := Lib.hid hA
  have kp2 := HF1.out.2.2.fr0 f2
  have HF2 := Lib.hid (And.intro (HF1.out.1.tr f2) kp2)
  clear f2 hA a0 a1 a2 a3 a4 a5 a6 a7 a8 a9 a10 a11 a12
  have a0 := kp2.cell 0 rfl
  have a1 := kp2.cell 1 rfl
  have a2 := kp2.cell 2 rfl
  have a3 := kp2.cell 3 rfl
  have a4 := kp2.cell 4 rfl
  have a5 := kp2.cell 5 rfl
  have a6 := kp2.cell 6 rfl
  have a7 := kp2.cell 7 rfl
  have a8 := kp2.cell 8 rfl
  have a9 := kp2.cell 9 rfl
  have a10 := kp2.cell 10 rfl
  have a11 := kp2.cell 11 rfl
  have a12 := kp2.cell 12 rfl
  clear kp2
  go_wp2_with fail
  refine (HS.out _).mono ?_
  rintro e w3 ⟨t', k', rfl, f3, hB⟩
  obtain ⟨rfl, rfl⟩ := FirC.one HA.out hB
  have HH := Lib.hid (Held.mk (HF2.out.2.fr0 f3) (HF2.out.1.tr f3))
  clear f3 hB a0 a1 a2 a3 a4 a5 a6 a7 a8 a9 a10 a11 a12
  go_wp2_with (first | (go_at_call 14; refine (HM.out _).mono ?_; rintro e w4 ⟨rfl, rfl⟩) | (go_at_call 15; refine (HM2.out _).mono ?_; rintro e w5 ⟨rfl, rfl⟩))
  have HHd := Lib.hid (HH.out.go (Fr.drew (Fr.refl _ _)))
  go_region_held3 (fun v => v.cell? ⟨w.heap.size, 0, none⟩ = some (.int .i64 p.kind) ∧ v.cell? ⟨w.heap.size, 1, none⟩ = some (.int .u64 p.period) ∧ v.cell? ⟨w.heap.size, 2, none⟩ = some (.int .i64 p.left) ∧ v.cell? ⟨w.heap.size, 3, none⟩ = some (.int .u64 p.x.mi) ∧ v.cell? ⟨w.heap.size, 4, none⟩ = some (.bool p.x.s0) ∧ v.cell? ⟨w.heap.size, 5, none⟩ = some (.int .u64 p.x.ho) ∧ v.cell? ⟨w.heap.size, 6, none⟩ = some (.bool p.x.s1) ∧ v.cell? ⟨w.heap.size, 7, none⟩ = some (.int .u64 p.x.da) ∧ v.cell? ⟨w.heap.size, 8, none⟩ = some (.bool p.x.s2) ∧ v.cell? ⟨w.heap.size, 9, none⟩ = some (.int .u64 p.x.mo) ∧ v.cell? ⟨w.heap.size, 10, none⟩ = some (.bool p.x.s3) ∧ v.cell? ⟨w.heap.size, 11, none⟩ = some (.int .u64 p.x.we) ∧ v.cell? ⟨w.heap.size, 12, none⟩ = some (.bool p.x.s4) ∧ Bk v w.heap.size 28 p.cs ∧ Fr (fun _ => False) w v) (first | exact HHd.out | exact Held.go (by assumption) (by assumption)) (first | (go_at_call 16; refine (HC1.out _).mono ?_; rintro e w7 ⟨rfl, f7⟩) | (go_at_call 17; refine (HC2.out _).mono ?_; rintro e w8 ⟨rfl, f8⟩))
  all_goals have HE := Lib.hid (Held.fr (w := w) (b := w.heap.size) (p := p) (by assumption))
  all_goals go_wp2_with fail
  all_goals go_ret
  all_goals exact ⟨rfl, HE.out⟩
end Go.Proofs.YtnjfefbeemicaaaDoor
