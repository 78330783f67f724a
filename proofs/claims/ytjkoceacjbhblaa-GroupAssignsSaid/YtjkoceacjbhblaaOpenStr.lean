/- A slice of strings, opened. -/
import Derived.Test.YtjkoceacjbhblaaOpenCoord
namespace Go.Proofs.Ytjkoceacjbhblaa
open Go.ChangeShapes Go.WideShapes Go.ChangeAt Go.RowKit Go.Joins Go.Deep
variable {H : Type} {enc : TypeId × Value → H} {w : World} {base : Nat} {spare : Nat → Bool} {held : Bool}

theorem open_strings {fuel : Nat} {v : Value} {x : DataW H × List MemPlace} (h : DataW.trod enc Try.prog w base spare held fuel 63 [v] = some x) :
    ∃ l : List ByteArray, Ss w v l ∧ l.length ≤ maxLen ∧ (fits Try.prog 63 x.1 → l.length * 16 ≤ reachBytes) := by
  obtain ⟨cs, ds, sp, hsl, hm, hl, hd, he⟩ := open_sl (k := 1) Try.underlying63 (by kernel_rfl) (by decide) h
  have key : ∀ cs : List (List Value), (∀ c ∈ cs, ∃ b : ByteArray, c = [Value.string b]) → ∃ l : List ByteArray, cs.flatten = l.map Value.string ∧ l.length = cs.length := by
    intro cs
    induction cs with
    | nil => exact fun _ => ⟨[], rfl, rfl⟩
    | cons c cs ih =>
      intro hcs
      obtain ⟨l, h1, h2⟩ := ih (fun c hc => hcs c (by simp [hc]))
      obtain ⟨b, rfl⟩ := hcs c (by simp)
      exact ⟨b :: l, by simp [h1], by simp [h2]⟩
  obtain ⟨l, h1, h2⟩ := key cs (fun c hc => by
    obtain ⟨i, hi, rfl⟩ := List.mem_iff_getElem.1 hc
    obtain ⟨n, y, h4, -⟩ := he i hi (by omega)
    obtain ⟨b, e1, -, e2⟩ := DataW.trod_string Try.underlying9 h4
    exact ⟨b, e1⟩)
  refine ⟨l, ?_, by omega, fun hf => ?_⟩
  · rw [h1, ← h2] at hsl; exact hsl
  · rcases hd with hd | ⟨hd, rfl⟩
    · rw [hd] at hf
      have := (fits_row Try.underlying63 hf).1
      have e : Try.prog.bytesOf 9 = 16 := by kernel_rfl
      rw [e] at this
      omega
    · simp at h2; subst h2; simp
set_option maxRecDepth 100000 in
theorem open_texts_ {r : Reach} {b0 : Nat} {v : Value} {d : DataW H} {p : List MemPlace} (hv : Value.okWide Try.prog w r b0 63 v) (h : DataW.Trod enc Try.prog w base spare held 63 v d p) :
    ∃ l : List ByteArray, Ss w v l ∧ l.length ≤ maxLen ∧ (fits Try.prog 63 d → l.length * 16 ≤ reachBytes) := by
  obtain ⟨a, len, cap, rfl⟩ := okWide_slice Try.underlying63 hv
  obtain ⟨fuel, hf⟩ := h
  exact open_strings hf
end Go.Proofs.Ytjkoceacjbhblaa
