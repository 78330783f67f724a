/- Two endings: a call that tells whether a statement holds; a call that finds the first place at which one holds. -/
import Derived.Test.YtjkoceacjbhblaaBase
namespace Go.Proofs.Ytjkoceacjbhblaa
open Go.RowKit

theorem below_then {a b c : World} (h : Below a.heap.size a b) (k : Below b.heap.size b c) : Below a.heap.size a c := h.trans (k.mono h.size)
theorem bcell {W w1 : World} (hb : Below W.heap.size W w1) : (∀ b o, b < W.heap.size → w1.cell? ⟨b, o, none⟩ = W.cell? ⟨b, o, none⟩) ∧ (∀ b o, b < W.heap.size → w1.frozen? ⟨b, o, none⟩ = W.frozen? ⟨b, o, none⟩) :=
  ⟨fun b o h => hb.cell (p := ⟨b, o, none⟩) h, fun b o h => hb.frozen (p := ⟨b, o, none⟩) h⟩
/-- the call says whether P holds; memory only grows -/
def Tells (P : Prop) (w : World) (e : Ending) (w' : World) : Prop := ∃ b : Bool, e = .returned (.bool b) ∧ (b = true ↔ P) ∧ Below w.heap.size w w'
theorem Tells.yes {P : Prop} {w w' : World} {e : Ending} (h : Tells P w e w') (hp : P) : e = .returned (.bool true) ∧ Below w.heap.size w w' := by
  obtain ⟨b, rfl, hb, hw⟩ := h
  rw [hb.2 hp]
  exact ⟨rfl, hw⟩
theorem Tells.no {P : Prop} {w w' : World} {e : Ending} (h : Tells P w e w') (hp : ¬ P) : e = .returned (.bool false) ∧ Below w.heap.size w w' := by
  obtain ⟨b, rfl, hb, hw⟩ := h
  rcases b with _ | _
  · exact ⟨rfl, hw⟩
  · exact absurd (hb.1 rfl) hp
theorem Tells.mk_yes {P : Prop} {w w' : World} (hp : P) (hw : Below w.heap.size w w') : Tells P w (.returned (.bool true)) w' := ⟨true, rfl, by simp [hp], hw⟩
theorem Tells.mk_no {P : Prop} {w w' : World} (hp : ¬ P) (hw : Below w.heap.size w w') : Tells P w (.returned (.bool false)) w' := ⟨false, rfl, by simp [hp], hw⟩
theorem Tells.cong {P Q : Prop} {w w' : World} {e : Ending} (h : Tells P w e w') (hp : P ↔ Q) : Tells Q w e w' := by
  obtain ⟨b, he, hb, hw⟩ := h
  exact ⟨b, he, hb.trans hp, hw⟩
/-- the call gives the first place below n at which P holds, or -1; memory only grows -/
def Finds (P : Nat → Prop) (n : Nat) (w : World) (e : Ending) (w' : World) : Prop :=
  ∃ r : Int, e = .returned (.int .i64 r) ∧ Below w.heap.size w w' ∧ ((∃ k : Nat, k < n ∧ r = k ∧ P k ∧ ∀ j, j < k → ¬ P j) ∨ (r = -1 ∧ ∀ j, j < n → ¬ P j))
end Go.Proofs.Ytjkoceacjbhblaa
