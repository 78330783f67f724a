/- Parts of a proof, merged: GBeat. No condition. -/
import Derived.Test.YtjkoceacjbhblaaGs5
namespace Go.Proofs.Ytjkoceacjbhblaa
open Go.RowKit

theorem ownM_len {w0 w : World} {base n n' : Nat} {v : Value} {ds : List MemD} {rows : List (MemD × Value)} (h : OwnM w0 w base v ds rows n) (e : n' = n) : OwnM w0 w base v ds rows n' := by subst e; exact h
end Go.Proofs.Ytjkoceacjbhblaa
