/-
  '==' of two specs and of two plans, as one Bool.
-/
import Derived.Test.YtnjfefbeemicaaaDoorSpecA
import Derived.Laws.StructEq
namespace Go.Proofs.YtnjfefbeemicaaaDoor
open Go.RowKit

section
variable {P : Program} {d : Nat} {xs ys : Array Value} {f : Field} {fs : List Field} {a b : Value} {r s : Bool} {w : World}
theorem eq_more (hn : (f.name == "_") = false) (ha : (part f.type xs f.offset).run P w = .ok a w) (hb : (part f.type ys f.offset).run P w = .ok b w) (he : (Op.equalIn d f.type a b).run P w = .ok r w) (hr : (Op.eqFields d xs ys fs).run P w = .ok s w) : (Op.eqFields d xs ys (f :: fs)).run P w = .ok (r && s) w := by
  have hn' : f.name ≠ "_" := by simpa using hn
  rw [Op.eqFields]
  simp only [if_pos hn', Sem.run_bind, ha, hb, he, Result.andThen_ok]
  cases r
  · simp
  · simpa using hr
theorem eq_none : (Op.eqFields d xs ys []).run P w = .ok true w := by simp [Op.eqFields]
theorem eq_of {t : TypeId} {fs : Array Field} (hu : P.underlying t = some (.struct fs)) (hp : P.stoodInHeld t = false) (h : (Op.eqFields d xs ys fs.toList).run P w = .ok r w) : (Op.equalIn (d + 1) t (.agg xs) (.agg ys)).run P w = .ok r w := by
  have hf : P.fieldsOf t = fs := by simp [Program.fieldsOf, hu]
  rw [run_equalIn_struct (P := P) w d t xs ys (by rw [hf]; exact hu) hp, hf]
  exact h
end
theorem eq_field (d : Nat) (w : World) (x0 y0 : Int) (x1 y1 : Bool) :
    (Op.equalIn (d + 2) 24 (.agg #[.int .u64 x0, .bool x1]) (.agg #[.int .u64 y0, .bool y1])).run Tryd.prog w = .ok (x0 == y0 && (x1 == y1 && true)) w := by
  refine eq_of Tryd.underlying24 (by kernel_rfl) ?_
  refine eq_more (by rfl) (by go_simp; rfl) (by go_simp; rfl) (by go_simp) ?_
  refine eq_more (by rfl) (by go_simp; rfl) (by go_simp; rfl) (by go_simp) ?_
  exact eq_none
/-- Are two specs alike? -/
def Sp.eqB (x y : Sp) : Bool := ((x.mi : Int) == y.mi && (x.s0 == y.s0 && true)) && (((x.ho : Int) == y.ho && (x.s1 == y.s1 && true)) && (((x.da : Int) == y.da && (x.s2 == y.s2 && true)) && (((x.mo : Int) == y.mo && (x.s3 == y.s3 && true)) && (((x.we : Int) == y.we && (x.s4 == y.s4 && true)) && true))))
theorem eq_spec (d : Nat) (w : World) (x y : Sp) : (Op.equalIn (d + 3) 26 (.agg x.cs.toArray) (.agg y.cs.toArray)).run Tryd.prog w = .ok (x.eqB y) w := by
  refine eq_of Tryd.underlying26 (by kernel_rfl) ?_
  refine eq_more (by rfl) (by go_simp) (by go_simp) (eq_field d w _ _ _ _) ?_
  refine eq_more (by rfl) (by go_simp) (by go_simp) (eq_field d w _ _ _ _) ?_
  refine eq_more (by rfl) (by go_simp) (by go_simp) (eq_field d w _ _ _ _) ?_
  refine eq_more (by rfl) (by go_simp) (by go_simp) (eq_field d w _ _ _ _) ?_
  refine eq_more (by rfl) (by go_simp) (by go_simp) (eq_field d w _ _ _ _) ?_
  exact eq_none
theorem Sp.eqB_iff (x y : Sp) : x.eqB y = true ↔ x = y := by
  obtain ⟨a0, a1, a2, a3, a4, a5, a6, a7, a8, a9⟩ := x
  obtain ⟨b0, b1, b2, b3, b4, b5, b6, b7, b8, b9⟩ := y
  simp [Sp.eqB]
  constructor
  · rintro ⟨⟨h1, h2⟩, ⟨h3, h4⟩, ⟨h5, h6⟩, ⟨h7, h8⟩, h9, h10⟩
    exact ⟨by omega, by omega, by omega, by omega, by omega, h2, h4, h6, h8, h10⟩
  · rintro ⟨h1, h3, h5, h7, h9, h2, h4, h6, h8, h10⟩
    exact ⟨⟨by omega, h2⟩, ⟨by omega, h4⟩, ⟨by omega, h6⟩, ⟨by omega, h8⟩, by omega, h10⟩
/-- A plan. -/
structure Pl where
  kind : Int
  period : Nat
  left : Int
  x : Sp
abbrev Pl.cs (p : Pl) : List Value := [.int .i64 p.kind, .int .u64 p.period, .int .i64 p.left, .int .u64 p.x.mi, .bool p.x.s0, .int .u64 p.x.ho, .bool p.x.s1, .int .u64 p.x.da, .bool p.x.s2, .int .u64 p.x.mo, .bool p.x.s3, .int .u64 p.x.we, .bool p.x.s4]
def Pl.eqB (p q : Pl) : Bool := (p.kind == q.kind) && (((p.period : Int) == q.period) && ((p.left == q.left) && (p.x.eqB q.x && true)))
theorem eq_plan (d : Nat) (w : World) (p q : Pl) : (Op.equalIn (d + 4) 28 (.agg p.cs.toArray) (.agg q.cs.toArray)).run Tryd.prog w = .ok (p.eqB q) w := by
  refine eq_of Tryd.underlying28 (by kernel_rfl) ?_
  refine eq_more (by rfl) (by go_simp; rfl) (by go_simp; rfl) (by go_simp) ?_
  refine eq_more (by rfl) (by go_simp; rfl) (by go_simp; rfl) (by go_simp) ?_
  refine eq_more (by rfl) (by go_simp; rfl) (by go_simp; rfl) (by go_simp) ?_
  refine eq_more (by rfl) (by go_simp) (by go_simp) (eq_spec d w p.x q.x) ?_
  exact eq_none
theorem Pl.eqB_iff (p q : Pl) : p.eqB q = true ↔ p = q := by
  obtain ⟨a0, a1, a2, a3⟩ := p
  obtain ⟨b0, b1, b2, b3⟩ := q
  simp [Pl.eqB, Sp.eqB_iff]
  intro _ _ _
  omega
theorem neq_plan (w : World) (p q : Pl) : (binOp .neq 28 (.agg p.cs.toArray) (.agg q.cs.toArray)).run Tryd.prog w = .ok (.bool (!p.eqB q)) w := by
  rw [run_neq_struct, eq_plan 9996 w p q]
  rfl
theorem eql_plan (w : World) (p q : Pl) : (binOp .eql 28 (.agg p.cs.toArray) (.agg q.cs.toArray)).run Tryd.prog w = .ok (.bool (p.eqB q)) w := by
  rw [run_eql_struct, eq_plan 9996 w p q]
  rfl
end Go.Proofs.YtnjfefbeemicaaaDoor
