/- A call that answers a code: 0 where a statement holds, 12 where it does not. -/
import Derived.Test.YtjkoceacjbhblaaTells
namespace Go.Proofs.Ytjkoceacjbhblaa
open Go.RowKit

/-- the call answers an error number: 0 where P holds, else 12; memory only grows -/
def Answers (P : Prop) (w : World) (e : Ending) (w' : World) : Prop := ∃ n : Int, e = .returned (.int .i64 n) ∧ (P ∧ n = 0 ∨ ¬ P ∧ n = 12) ∧ Below w.heap.size w w'
theorem Answers.yes {P : Prop} {w w' : World} {e : Ending} (h : Answers P w e w') (hp : P) : e = .returned (.int .i64 0) ∧ Below w.heap.size w w' := by
  obtain ⟨b, rfl, hb, hw⟩ := h
  rcases hb with ⟨_, rfl⟩ | ⟨hn, _⟩
  · exact ⟨rfl, hw⟩
  · exact absurd hp hn
theorem Answers.no {P : Prop} {w w' : World} {e : Ending} (h : Answers P w e w') (hp : ¬ P) : e = .returned (.int .i64 12) ∧ Below w.heap.size w w' := by
  obtain ⟨b, rfl, hb, hw⟩ := h
  rcases hb with ⟨hn, _⟩ | ⟨_, rfl⟩
  · exact absurd hn hp
  · exact ⟨rfl, hw⟩
theorem Answers.below {P : Prop} {w w' : World} {e : Ending} (h : Answers P w e w') : Below w.heap.size w w' := by
  obtain ⟨_, _, _, h⟩ := h
  exact h
theorem Answers.mk_no {P : Prop} {w w' : World} (hp : ¬ P) (hw : Below w.heap.size w w') : Answers P w (.returned (.int .i64 12)) w' := ⟨12, rfl, Or.inr ⟨hp, rfl⟩, hw⟩
theorem Answers.mk_yes {P : Prop} {w w' : World} (hp : P) (hw : Below w.heap.size w w') : Answers P w (.returned (.int .i64 0)) w' := ⟨0, rfl, Or.inl ⟨hp, rfl⟩, hw⟩

end Go.Proofs.Ytjkoceacjbhblaa
