/-
  The law's 'works', walked to its end.
-/
import Derived.Test.YtncpfbffdilpnaaLawG
namespace Go.Proofs.Ytncpfbffdilpnaa
open Go.RowKit

set_option maxHeartbeats 4000000 in
set_option maxRecDepth 4000 in
theorem works_any (w : World) : Calls Try.prog 4 #[] w fun e w' => e = .returned (.bool true) ∧ Fr (fun _ => False) w w' := by
  go_enter Try.func4, Try.ntmps4
  go_wp2_with fail
  refine (Own6.new w).mono ?_
  rintro e W1 ⟨rfl, h⟩
  have H1 := Lib.hid h
  clear h
  go_wp2_with fail
  refine (H1.out.take1).mono ?_
  rintro e W2 ⟨rfl, h⟩
  have H2 := Lib.hid h
  clear h
  go_wp2_with fail
  refine calls_name (fun W3 hW3 => ?_)
  have H3 := Lib.hid (hW3 ▸ H2.out.put 0 1)
  clear hW3
  refine (H3.out.take2).mono ?_
  rintro e W4 ⟨rfl, h⟩
  have H4 := Lib.hid h
  clear h
  go_wp2_with fail
  refine calls_name (fun W5 hW5 => ?_)
  have H5 := Lib.hid (hW5 ▸ H4.out.put 1 1)
  clear hW5
  refine (H5.out.take3).mono ?_
  rintro e W6 ⟨rfl, h⟩
  have H6 := Lib.hid h
  clear h
  go_upto_region 7 with fail
  refine wp_name (fun W7 hW7 => ?_)
  have H7 := Lib.hid (hW7 ▸ H6.out.put 0 0)
  clear hW7
  have a0 := (H7.out.box (W4.heap.size, 1, 1) (by simp)).cell 0 rfl
  have a1 := (H7.out.box (W4.heap.size, 1, 1) (by simp)).cell 1 rfl
  have b0 := (H7.out.box (W2.heap.size, 0, 1) (by simp)).cell 0 rfl
  have b1 := (H7.out.box (W2.heap.size, 0, 1) (by simp)).cell 1 rfl
  dsimp only at a0 a1 b0 b1
  go_upto_region 8 with (first | (go_at_call 11; refine (H7.out.alive1).mono ?_; rintro e W8 ⟨rfl, h⟩; have H8 := Lib.hid h; clear h) | (go_at_call 12; refine (H8.out.len1).mono ?_; rintro e W9 ⟨rfl, h⟩; have H9 := Lib.hid h; clear h))
  clear a0 a1 b0 b1
  have HS := Lib.hid (show ∀ (s : St) (W : World), Own6 w w.heap.size s [(W6.heap.size, 0, 0), (W4.heap.size, 1, 1), (W2.heap.size, 0, 1)] W → (W.cell? ⟨W4.heap.size, 0, none⟩ = some (.int .i64 1) ∧ W.cell? ⟨W4.heap.size, 1, none⟩ = some (.int .i64 1) ∧ W.cell? ⟨W2.heap.size, 0, none⟩ = some (.int .i64 0) ∧ W.cell? ⟨W2.heap.size, 1, none⟩ = some (.int .i64 1)) from
    fun s W h => ⟨(h.box (W4.heap.size, 1, 1) (by simp)).cell 0 rfl, (h.box (W4.heap.size, 1, 1) (by simp)).cell 1 rfl, (h.box (W2.heap.size, 0, 1) (by simp)).cell 0 rfl, (h.box (W2.heap.size, 0, 1) (by simp)).cell 1 rfl⟩)
  have hq : Own6 w w.heap.size ⟨2, 2, [(1, true), (1, true)], [], 2⟩ [(W6.heap.size, 0, 0), (W4.heap.size, 1, 1), (W2.heap.size, 0, 1)] W9.drew := H9.out.ro (Fr.refl _ _).drew
  have C1 := Lib.hid (fun (W : World) (f : Own6 w w.heap.size ⟨2, 2, [(1, true), (1, true)], [], 2⟩ [(W6.heap.size, 0, 0), (W4.heap.size, 1, 1), (W2.heap.size, 0, 1)] W) => f.free1)
  have C2 := Lib.hid (fun (W : World) (f : Own6 w w.heap.size ⟨2, 2, [(1, false), (1, true)], [0], 1⟩ [(W6.heap.size, 0, 0), (W4.heap.size, 1, 1), (W2.heap.size, 0, 1)] W) => f.free2)
  go_region_held3 (fun W => W.cell? ⟨W4.heap.size, 0, none⟩ = some (.int .i64 1) ∧ W.cell? ⟨W4.heap.size, 1, none⟩ = some (.int .i64 1) ∧ W.cell? ⟨W2.heap.size, 0, none⟩ = some (.int .i64 0) ∧ W.cell? ⟨W2.heap.size, 1, none⟩ = some (.int .i64 1)) (exact HS.out _ _ (by assumption)) (first | (go_at_call 13; with_reducible refine (C1.out _ (by assumption)).mono ?_; rintro e wx ⟨rfl, hfr⟩) | (go_at_call 13; with_reducible refine (C2.out _ (by assumption)).mono ?_; rintro e wx ⟨rfl, hfr⟩))
  go_wp2_with fail
  refine calls_name (fun W10 hW10 => ?_)
  have h10 : Own6 w w.heap.size ⟨2, 2, [(1, false), (1, false)], [0, 1], 0⟩ [(W6.heap.size, 0, 0), (W4.heap.size, 1, 1), (W2.heap.size, 0, 1)] W10 := by rw [hW10]; assumption
  have H10 := Lib.hid h10
  clear hW10 h10
  refine (H10.out.take4).mono ?_
  rintro e W11 ⟨rfl, h⟩
  have H11 := Lib.hid h
  clear h
  go_upto_region 10 with fail
  refine wp_name (fun W12 hW12 => ?_)
  have H12 := Lib.hid (hW12 ▸ H11.out.put 1 2)
  clear hW12
  have a0 := (H12.out.box (W4.heap.size, 1, 1) (by simp)).cell 0 rfl
  have a1 := (H12.out.box (W4.heap.size, 1, 1) (by simp)).cell 1 rfl
  have b0 := (H12.out.box (W11.heap.size, 1, 2) (by simp)).cell 0 rfl
  have b1 := (H12.out.box (W11.heap.size, 1, 2) (by simp)).cell 1 rfl
  dsimp only at a0 a1 b0 b1
  go_upto_region 11 with (first | (go_at_call 11; refine (H12.out.alive2).mono ?_; rintro e W13 ⟨rfl, h⟩; have H13 := Lib.hid h; clear h) | (go_at_call 14; refine (H13.out.left2).mono ?_; rintro e W14 ⟨rfl, h⟩; have H14 := Lib.hid h; clear h) | (go_at_call 15; refine (H14.out.worn2).mono ?_; rintro e W15 ⟨rfl, h⟩; have H15 := Lib.hid h; clear h))
  clear a0 a1 b0 b1
  have b0 := (H15.out.box (W11.heap.size, 1, 2) (by simp)).cell 0 rfl
  have b1 := (H15.out.box (W11.heap.size, 1, 2) (by simp)).cell 1 rfl
  dsimp only at b0 b1
  go_wp2_with fail
  refine (H15.out.free3).mono ?_
  rintro e W16 ⟨rfl, h⟩
  have H16 := Lib.hid h
  clear h b0 b1
  go_wp2_with fail
  refine (H16.out.at3).mono ?_
  rintro e W17 ⟨rfl, h⟩
  have H17 := Lib.hid h
  clear h
  go_upto_region 13 with fail
  refine wp_name (fun W18 hW18 => ?_)
  have H18 := Lib.hid (hW18 ▸ H17.out.put 0 0)
  clear hW18
  have HB := Lib.hid (fun (W : World) (f : Own6 w w.heap.size ⟨2, 2, [(1, false), (2, false)], [0], 0⟩ ((W17.heap.size, 0, 0) :: (W11.heap.size, 1, 2) :: [(W6.heap.size, 0, 0), (W4.heap.size, 1, 1), (W2.heap.size, 0, 1)]) W) => (show W.cell? ⟨W17.heap.size, 0, none⟩ = some (.int .i64 0) ∧ W.cell? ⟨W17.heap.size, 1, none⟩ = some (.int .i64 0) ∧ W.cell? ⟨W11.heap.size, 0, none⟩ = some (.int .i64 1) ∧ W.cell? ⟨W11.heap.size, 1, none⟩ = some (.int .i64 2) from
    ⟨(f.box (W17.heap.size, 0, 0) (by simp)).cell 0 rfl, (f.box (W17.heap.size, 0, 0) (by simp)).cell 1 rfl, (f.box (W11.heap.size, 1, 2) (by simp)).cell 0 rfl, (f.box (W11.heap.size, 1, 2) (by simp)).cell 1 rfl⟩))
  go_wp2_with (first | (go_at_call 15; refine (H18.out.worn3).mono ?_; rintro e W19 ⟨rfl, h⟩; have H19 := Lib.hid h; obtain ⟨c0, c1, c2, c3⟩ := HB.out _ h; clear h) | (go_at_call 13; refine (H19.out.free4).mono ?_; rintro e W20 ⟨rfl, h⟩; have H20 := Lib.hid h; clear h))
  go_ret
  exact ⟨rfl, H20.out.fr⟩
end Go.Proofs.Ytncpfbffdilpnaa
