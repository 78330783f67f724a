/- An argument that is a list of entries, opened. -/
import Derived.Test.YthefakbhaaponaaLawKit
import Derived.Test.YthefakbhaaponaaOpenSl
import Derived.Test.YthefakbhaaponaaEntD
namespace Go.Proofs.Ythefakbhaaponaa
open Go.ChangeShapes Go.WideShapes Go.ChangeAt Go.RowKit Go.Joins Go.Deep

section
variable {H : Type} {enc : TypeId × Value → H} {P : Program} {w : World} {base : Nat} {spare : Nat → Bool} {held : Bool}
theorem open_cells7e {t : TypeId} {f0 f1 f2 f3 f4 f5 f6 : Field} {fuel : Nat} {cs : List Value} {x : DataW H × List MemPlace} (hs : P.underlying t = some (.struct #[f0, f1, f2, f3, f4, f5, f6])) (hone : oneCellFields P #[f0, f1, f2, f3, f4, f5, f6] = true) (hC : P.cellsOf t = 7)
    (h : DataW.trod enc P w base spare held fuel t cs = some x) :
    ∃ (v0 v1 v2 v3 v4 v5 v6 : Value) (y0 y1 y2 y3 y4 y5 y6 : DataW H × List MemPlace) (n : Nat), cs = [v0, v1, v2, v3, v4, v5, v6] ∧ x.1 = .agg [y0.1, y1.1, y2.1, y3.1, y4.1, y5.1, y6.1] ∧
      DataW.trod enc P w base spare held n f0.type [v0] = some y0 ∧ DataW.trod enc P w base spare held n f1.type [v1] = some y1 ∧ DataW.trod enc P w base spare held n f2.type [v2] = some y2 ∧ DataW.trod enc P w base spare held n f3.type [v3] = some y3 ∧ DataW.trod enc P w base spare held n f4.type [v4] = some y4 ∧ DataW.trod enc P w base spare held n f5.type [v5] = some y5 ∧ DataW.trod enc P w base spare held n f6.type [v6] = some y6 := by
  obtain ⟨xs, n, _, rfl, hcl, hlen, hg⟩ := DataW.trod_struct hs h
  match cs, hcl.trans hC with
  | [c0, c1, c2, c3, c4, c5, c6], _ =>
    obtain ⟨o0, k0⟩ := hone_of hone 0 f0 rfl
    obtain ⟨o1, k1⟩ := hone_of hone 1 f1 rfl
    obtain ⟨o2, k2⟩ := hone_of hone 2 f2 rfl
    obtain ⟨o3, k3⟩ := hone_of hone 3 f3 rfl
    obtain ⟨o4, k4⟩ := hone_of hone 4 f4 rfl
    obtain ⟨o5, k5⟩ := hone_of hone 5 f5 rfl
    obtain ⟨o6, k6⟩ := hone_of hone 6 f6 rfl
    match xs, hlen with
    | [y0, y1, y2, y3, y4, y5, y6], _ =>
      exact ⟨c0, c1, c2, c3, c4, c5, c6, y0, y1, y2, y3, y4, y5, y6, n, rfl, rfl, by simpa [o0, k0] using hg 0 f0 rfl, by simpa [o1, k1] using hg 1 f1 rfl, by simpa [o2, k2] using hg 2 f2 rfl, by simpa [o3, k3] using hg 3 f3 rfl, by simpa [o4, k4] using hg 4 f4 rfl, by simpa [o5, k5] using hg 5 f5 rfl, by simpa [o6, k6] using hg 6 f6 rfl⟩
theorem open_ent7 {fuel : Nat} {cs : List Value} {x : DataW H × List MemPlace} (h : DataW.trod enc Try.prog w base spare held fuel 30 cs = some x) :
    ∃ e : Ent, cs = e.cells := by
  obtain ⟨v0, v1, v2, v3, v4, v5, v6, y0, y1, y2, y3, y4, y5, y6, n, rfl, -, g0, g1, g2, g3, g4, g5, g6⟩ := open_cells7e Try.underlying30 (by kernel_rfl) (by kernel_rfl) h
  obtain ⟨e0, z0, -, w0⟩ := DataW.trod_int Try.underlying3 g0
  obtain ⟨e1, z1, -, w1⟩ := DataW.trod_int Try.underlying3 g1
  obtain ⟨e2, z2, -, w2⟩ := DataW.trod_int Try.underlying3 g2
  obtain ⟨e3, z3, -, w3⟩ := DataW.trod_int Try.underlying3 g3
  obtain ⟨e4, z4, -, w4⟩ := DataW.trod_int Try.underlying3 g4
  obtain ⟨e5, z5, -⟩ := DataW.trod_bool Try.underlying4 g5
  obtain ⟨e6, z6, -, w6⟩ := DataW.trod_string Try.underlying9 g6
  simp only [List.cons.injEq, and_true] at z0 z1 z2 z3 z4 z5 z6
  subst z0 z1 z2 z3 z4 z5 z6
  exact ⟨⟨e0, e1, e2, e3, e4, e5, e6⟩, rfl⟩
theorem open_ents {fuel : Nat} {v : Value} {x : DataW H × List MemPlace} (h : DataW.trod enc Try.prog w base spare held fuel 22 [v] = some x) :
    ∃ l : List Ent, Es w v l ∧ l.length ≤ maxLen ∧ (fits Try.prog 22 x.1 → l.length * 64 ≤ reachBytes) := by
  obtain ⟨cs, ds, sp, hsl, hm, hl, hd, he⟩ := open_sl (k := 7) Try.underlying22 (by kernel_rfl) (by decide) h
  have key : ∀ cs : List (List Value), (∀ c ∈ cs, ∃ e : Ent, c = e.cells) → ∃ l : List Ent, cs.flatten = ecs l ∧ l.length = cs.length := by
    intro cs
    induction cs with
    | nil => exact fun _ => ⟨[], rfl, rfl⟩
    | cons c cs ih =>
      intro hcs
      obtain ⟨l, h1, h2⟩ := ih (fun c hc => hcs c (by simp [hc]))
      obtain ⟨e, rfl⟩ := hcs c (by simp)
      exact ⟨e :: l, by simp [h1, ecs], by simp [h2]⟩
  obtain ⟨l, h1, h2⟩ := key cs (fun c hc => by
    obtain ⟨i, hi, rfl⟩ := List.mem_iff_getElem.1 hc
    obtain ⟨n, y, h4, -⟩ := he i hi (by omega)
    exact open_ent7 h4)
  refine ⟨l, ?_, by omega, fun hf => ?_⟩
  · rw [h1, ← h2] at hsl; exact hsl
  · rcases hd with hd | ⟨hd, rfl⟩
    · rw [hd] at hf
      have := (fits_row Try.underlying22 hf).1
      have e : Try.prog.bytesOf 30 = 64 := by kernel_rfl
      rw [e] at this
      omega
    · simp at h2; subst h2; simp
theorem open_entries {r : Reach} {b0 : Nat} {v : Value} {d : DataW H} {p : List MemPlace} (hv : Value.okWide Try.prog w r b0 22 v) (h : DataW.Trod enc Try.prog w base spare held 22 v d p) :
    ∃ l : List Ent, Es w v l ∧ l.length ≤ maxLen ∧ (fits Try.prog 22 d → l.length * 64 ≤ reachBytes) := by
  obtain ⟨a, len, cap, rfl⟩ := okWide_slice Try.underlying22 hv
  obtain ⟨fuel, hf⟩ := h
  exact open_ents hf
end
end Go.Proofs.Ythefakbhaaponaa
