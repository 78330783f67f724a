/- What may be a name, a list of parts, a transaction, a coordinator: plain statements. -/
import Derived.Test.YtjkoceacjbhblaaCoordD
import Derived.Test.YtjkoceacjbhblaaNameB
namespace Go.Proofs.Ytjkoceacjbhblaa
open Go.RowKit


def Rises (l : List Int) : Prop := ∀ k (h : k < l.length), 0 ≤ l[k] ∧ l[k] ≤ 3 ∧ ∀ j (hj : j + 1 = k), l[j] < l[k]
structure TxnOk (clock next : Int) (t : TxnD) : Prop where
  name : NameOk t.name
  pid : 1 ≤ t.pid ∧ t.pid < next
  ver : 0 ≤ t.ver ∧ t.ver ≤ 1073741824
  state : 1 ≤ t.state ∧ t.state ≤ 4
  since : 0 ≤ t.since ∧ t.since ≤ clock
  done : t.done = 0 ∨ t.done = 3 ∨ t.done = 4
  rises : Rises t.parts
  empty : t.state = 1 ↔ t.parts.length = 0
def Clash (s t : TxnD) : Prop := s.name = t.name ∨ s.pid = t.pid
def TxnsOk (clock next : Int) (ts : List TxnD) (n : Nat) : Prop := ∀ i (h : i < ts.length), i < n → TxnOk clock next ts[i] ∧ ∀ k (hk : k < i), ¬ Clash ts[k] ts[i]
structure CoordOk (c : CoordD) : Prop where
  clock : 0 ≤ c.clock ∧ c.clock ≤ 1073741824
  next : 1 ≤ c.next ∧ c.next ≤ 1073741824
  wait : 1 ≤ c.wait ∧ c.wait ≤ 1000
  many : c.txns.length ≤ 8
  all : TxnsOk c.clock c.next c.txns c.txns.length

/-- a list of parts in the document's way: the next one lies from last + 1 to 3 -/
theorem rises_len {l : List Int} (h : Rises l) : ∀ k (hk : k < l.length), (k : Int) ≤ l[k]
  | 0, hk => by have := (h 0 hk).1; simpa using this
  | k + 1, hk => by
    have h1 := rises_len h k (by omega)
    have h2 := (h (k + 1) hk).2.2 k rfl
    omega
theorem Rises.small {l : List Int} (h : Rises l) : l.length ≤ 4 := by
  rcases Nat.lt_or_ge 4 l.length with h4 | h4
  · have h1 := rises_len h 4 h4
    have h2 := (h 4 h4).2.1
    omega
  · exact h4

end Go.Proofs.Ytjkoceacjbhblaa
