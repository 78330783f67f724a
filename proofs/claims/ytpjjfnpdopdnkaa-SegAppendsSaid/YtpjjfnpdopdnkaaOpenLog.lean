/- Arguments that are bytes or a log, opened. -/
import Derived.Test.YtpjjfnpdopdnkaaOpenPart
namespace Go.Proofs.Ytpjjfnpdopdnkaa
open Go.ChangeShapes Go.WideShapes Go.ChangeAt Go.RowKit Go.Joins Go.Deep

section
variable {H : Type} {enc : TypeId × Value → H} {w : World} {base : Nat} {spare : Nat → Bool} {held : Bool}
set_option maxRecDepth 100000 in
theorem open_bytes_ {r : Reach} {b0 : Nat} {v : Value} {d : DataW H} {p : List MemPlace} (hv : Value.okWide Try.prog w r b0 34 v) (h : DataW.Trod enc Try.prog w base spare held 34 v d p) :
    ∃ l : List UInt8, By w v l ∧ l.length ≤ maxLen ∧ (fits Try.prog 34 d → l.length ≤ reachBytes) := by
  obtain ⟨a, len, cap, rfl⟩ := okWide_slice Try.underlying34 hv
  obtain ⟨fuel, hf⟩ := h
  exact open_bytes hf
set_option maxRecDepth 100000 in
theorem open_log_ {r : Reach} {b0 : Nat} {v : Value} {d : DataW H} {p : List MemPlace} (hv : Value.okWide Try.prog w r b0 42 v) (h : DataW.Trod enc Try.prog w base spare held 42 v d p) :
    ∃ (l : List UInt8) (s : Int) (pv : Value), v = .agg #[pv, .int .i64 s] ∧ By w pv l ∧ l.length ≤ maxLen ∧ I64 s ∧ (fits Try.prog 42 d → l.length ≤ reachBytes) := by
  obtain ⟨cs, rfl, hsz⟩ := okWide_struct Try.underlying42 hv
  obtain ⟨fuel, hf⟩ := h
  obtain ⟨l, s, pv, hcs, h1, h2, h3, h4⟩ := open_log hf
  obtain ⟨cl⟩ := cs
  simp only [Value.cells] at hcs
  subst hcs
  exact ⟨l, s, pv, rfl, h1, h2, h3, h4⟩
end
end Go.Proofs.Ytpjjfnpdopdnkaa
