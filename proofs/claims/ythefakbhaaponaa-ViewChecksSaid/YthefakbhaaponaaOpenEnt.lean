/- An argument that is an entry, opened. -/
import Derived.Test.YthefakbhaaponaaLawKit
namespace Go.Proofs.Ythefakbhaaponaa
open Go.ChangeShapes Go.WideShapes Go.ChangeAt Go.RowKit Go.Joins Go.Deep

section
variable {H : Type} {enc : TypeId × Value → H} {w : World} {base : Nat} {spare : Nat → Bool} {held : Bool}
set_option maxRecDepth 100000 in
theorem open_entry {r : Reach} {b0 : Nat} {v : Value} {d : DataW H} {p : List MemPlace} (hv : Value.okWide Try.prog w r b0 30 v) (h : DataW.Trod enc Try.prog w base spare held 30 v d p) :
    ∃ (e0 e1 e2 e3 e4 : Int) (e5 : Bool) (e6 : ByteArray), v = .agg #[.int .i64 e0, .int .i64 e1, .int .i64 e2, .int .i64 e3, .int .i64 e4, .bool e5, .string e6] ∧ e6.size ≤ maxLen := by
  obtain ⟨u0, u1, u2, u3, u4, u5, u6, y0, y1, y2, y3, y4, y5, y6, n, rfl, -, -, g0, g1, g2, g3, g4, g5, g6⟩ := open_agg7 Try.underlying30 (by kernel_rfl) (by kernel_rfl) hv h
  obtain ⟨e0, z0, j0, w0⟩ := DataW.trod_int Try.underlying3 g0
  obtain ⟨e1, z1, j1, w1⟩ := DataW.trod_int Try.underlying3 g1
  obtain ⟨e2, z2, j2, w2⟩ := DataW.trod_int Try.underlying3 g2
  obtain ⟨e3, z3, j3, w3⟩ := DataW.trod_int Try.underlying3 g3
  obtain ⟨e4, z4, j4, w4⟩ := DataW.trod_int Try.underlying3 g4
  obtain ⟨e5, z5, j5⟩ := DataW.trod_bool Try.underlying4 g5
  obtain ⟨e6, z6, j6, w6⟩ := DataW.trod_string Try.underlying9 g6
  simp only [List.cons.injEq, and_true] at z0 z1 z2 z3 z4 z5 z6
  subst z0 z1 z2 z3 z4 z5 z6
  exact ⟨e0, e1, e2, e3, e4, e5, e6, rfl, w6⟩
end

end Go.Proofs.Ythefakbhaaponaa
