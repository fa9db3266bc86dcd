/-
  A spec's five fields by pointers; spec.Check.
-/
import Derived.Test.YtnjfefbeemicaaaDoorCalH
import Derived.Test.YtnjfefbeemicaaaDoorCalR
import Derived.Laws.EntriesVeiled
namespace Go.Proofs.YtnjfefbeemicaaaDoor
open Go.RowKit

/-- A spec's cells. -/
abbrev Sp.cs (x : Sp) : List Value := [.int .u64 x.mi, .bool x.s0, .int .u64 x.ho, .bool x.s1, .int .u64 x.da, .bool x.s2, .int .u64 x.mo, .bool x.s3, .int .u64 x.we, .bool x.s4]
theorem fields0 (b n : Nat) (w : World) (h : Bk w n 122 [.pointer (some ⟨b, 0, none⟩)]) : Calls Tryd.prog 110 #[.pointer (some ⟨n, 0, none⟩)] w fun e w' => e = .returned (.pointer (some ⟨b, 0, none⟩)) ∧ w' = w := by
  have h0 := h.cell 0 rfl
  go_enter Tryd.func110, Tryd.ntmps110
  go_wp2_with fail
  go_ret
  exact ⟨rfl, rfl⟩
theorem fields1 (b n : Nat) (w : World) (h : Bk w n 122 [.pointer (some ⟨b, 0, none⟩)]) : Calls Tryd.prog 111 #[.pointer (some ⟨n, 0, none⟩)] w fun e w' => e = .returned (.pointer (some ⟨b, 2, none⟩)) ∧ w' = w := by
  have h0 := h.cell 0 rfl
  go_enter Tryd.func111, Tryd.ntmps111
  go_wp2_with fail
  go_ret
  exact ⟨rfl, rfl⟩
theorem fields2 (b n : Nat) (w : World) (h : Bk w n 122 [.pointer (some ⟨b, 0, none⟩)]) : Calls Tryd.prog 112 #[.pointer (some ⟨n, 0, none⟩)] w fun e w' => e = .returned (.pointer (some ⟨b, 4, none⟩)) ∧ w' = w := by
  have h0 := h.cell 0 rfl
  go_enter Tryd.func112, Tryd.ntmps112
  go_wp2_with fail
  go_ret
  exact ⟨rfl, rfl⟩
theorem fields3 (b n : Nat) (w : World) (h : Bk w n 122 [.pointer (some ⟨b, 0, none⟩)]) : Calls Tryd.prog 113 #[.pointer (some ⟨n, 0, none⟩)] w fun e w' => e = .returned (.pointer (some ⟨b, 6, none⟩)) ∧ w' = w := by
  have h0 := h.cell 0 rfl
  go_enter Tryd.func113, Tryd.ntmps113
  go_wp2_with fail
  go_ret
  exact ⟨rfl, rfl⟩
theorem fields4 (b n : Nat) (w : World) (h : Bk w n 122 [.pointer (some ⟨b, 0, none⟩)]) : Calls Tryd.prog 114 #[.pointer (some ⟨n, 0, none⟩)] w fun e w' => e = .returned (.pointer (some ⟨b, 8, none⟩)) ∧ w' = w := by
  have h0 := h.cell 0 rfl
  go_enter Tryd.func114, Tryd.ntmps114
  go_wp2_with fail
  go_ret
  exact ⟨rfl, rfl⟩
/-- The five closures that capture block n. -/
abbrev five (n : Nat) : Array Value := #[.func (.func 110) #[] #[.pointer (some ⟨n, 0, none⟩)], .func (.func 111) #[] #[.pointer (some ⟨n, 0, none⟩)], .func (.func 112) #[] #[.pointer (some ⟨n, 0, none⟩)], .func (.func 113) #[] #[.pointer (some ⟨n, 0, none⟩)], .func (.func 114) #[] #[.pointer (some ⟨n, 0, none⟩)]]
theorem fields_any (b : Nat) (w : World) : Calls Tryd.prog 73 #[.pointer (some ⟨b, 0, none⟩)] w fun e w' => e = .returned (.agg (five w.heap.size)) ∧ Fr (fun _ => False) w w' ∧ Bk w' w.heap.size 122 [.pointer (some ⟨b, 0, none⟩)] := by
  go_enter Tryd.func73, Tryd.ntmps73
  go_wp2_with fail
  refine bodyPost_ret (v := .agg (five w.heap.size)) (by simp [results, Tryd.results73, go_sem]) rfl ⟨rfl, ?_, ?_⟩
  · exact ((Fr.refl _ w).alloc _).alloc _
  · exact (Bk.new w [.pointer (some ⟨b, 0, none⟩)] 122).al _
end Go.Proofs.YtnjfefbeemicaaaDoor
